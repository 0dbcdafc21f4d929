/- Merged texts: Ref2 Ref3 Ref4 Ref5 Ref6. -/
import Derived.Test.YthhbglkokpablaaGreatVD
/- Documents: the walks of what the document's own answer judges: shapes, layers. -/
namespace Go.Proofs.YthhbglkokpablaaGreat
open Go Go.RowKit E
attribute [local irreducible] XRun XOps XCode XCal XLoop XQ SemCall
set_option linter.unusedSimpArgs false
set_option linter.unusedVariables false
def formA (s:Sh):Bool:=!(decide (s.form<0)||(decide (3<s.form)||(((s.form==2)&&(decide (s.n<2)||decide (16<s.n)))||((s.form != 2)&&(s.n != 0)))))
def formF (s:Sh):Bool:=if s.form=3 then decide ((s.w.length:Int)+(s.h.length:Int)=0) else decide ((s.paths.length:Int)=0)
theorem keysB_nil {l:List Ky} (h:l.length=0):keysB l=true:=by
 rw[List.eq_nil_of_length_eq_zero h];rfl
theorem pksB_nil {l:List Pk} (h:l.length=0):pksB l=true:=by
 rw[List.eq_nil_of_length_eq_zero h];rfl
theorem formB_A {s:Sh} (h:formA s=false):formB s=false:=by
 unfold formA at h
 simp only[Bool.not_eq_false',Bool.or_eq_true,Bool.and_eq_true,decide_eq_true_eq,beq_iff_eq,bne_iff_ne,ne_eq] at h
 unfold formB
 by_cases e1:s.form<0∨3<s.form
 ·rw[if_pos e1]
 ·rw[if_neg e1,if_pos]
  rcases h with h|h|h|h
  ·exact absurd (.inl h) e1
  ·exact absurd (.inr h) e1
  ·exact .inl h
  ·exact .inr h
theorem formB_R {s:Sh} (h:formA s=true):formB s=(keysB s.w&&(keysB s.h&&(pksB s.paths&&formF s))):=by
 unfold formA at h
 simp only[Bool.not_eq_true',Bool.or_eq_false_iff,Bool.and_eq_false_iff,decide_eq_false_iff_not,beq_eq_false_iff_ne,bne_eq_false_iff_eq,ne_eq] at h
 obtain⟨h1,h2,h3,h4⟩:=h
 unfold formB formF
 rw[if_neg (by omega),if_neg (by omega)]
 by_cases g:s.form=3
 ·rw[if_pos g,if_pos g]
  by_cases e1:(s.w.length:Int)=0
  ·by_cases e2:(s.h.length:Int)=0
   ·rw[dt e1,dt e2,keysB_nil (by omega),keysB_nil (by omega),dt (show (s.w.length:Int)+(s.h.length:Int)=0 by omega)]
    simp
   ·rw[df e2,df (show ¬ (s.w.length:Int)+(s.h.length:Int)=0 by omega)]
    simp
  ·rw[df e1,df (show ¬ (s.w.length:Int)+(s.h.length:Int)=0 by omega)]
   simp
 ·rw[if_neg g,if_neg g]
  by_cases e1:(s.paths.length:Int)=0
  ·rw[dt e1,pksB_nil (by omega)]
   simp
  ·rw[df e1];simp
theorem shapeB_R (s:Sh) (h:formA s=true):shapeB s=(keysB s.w&&(keysB s.h&&(pksB s.paths&&(formF s&&(((s.rule==0)||(s.rule==1))&&(paintB s.paint&&(cksB s.colors&&(keysB s.width&&(keysB s.frm&&(keysB s.to&&(((s.cap==0)||(s.cap==1))&&dashB s.dash))))))))))):=by
 unfold shapeB
 rw[formB_R h]
 simp only[Bool.and_assoc]
/-- Rows that are no longer than there is room for. -/
def mxR:Nat:=140737488351232
structure ShM (s:Sh):Prop where
 w:s.w.length≤mxR
 h:s.h.length≤mxR
 paths:s.paths.length≤mxR
 colors:s.colors.length≤mxR
 width:s.width.length≤mxR
 dash:s.dash.length≤mxR
 frm:s.frm.length≤mxR
 to:s.to.length≤mxR
theorem or_tri (x:Int):((x==0)=true∧((x==0)||(x==1))=true)∨((x==0)=false∧(x==1)=true∧((x==0)||(x==1))=true)∨((x==0)=false∧(x==1)=false∧((x==0)||(x==1))=false):=by
 cases h1:(x==0) <;> cases h2:(x==1) <;> simp
set_option maxRecDepth 100000 in
set_option maxHeartbeats 8000000 in
theorem rshape13_ (s:Sh) (vw vh vp vc vd vda vf vt:Value) (H:AH) (h:ShV H s vw vh vp vc vd vda vf vt) (hsm:ShM s):SemCall Tryz.prog 63 [shV s vw vh vp vc vd vda vf vt] H (.bool (shapeB s)) H []:=by
  refine pure_of ?_ rfl
  obtain⟨aw,ew,fw⟩:=h.w.form
  obtain⟨ah,eh,fh⟩:=h.h.form
  obtain⟨ap_,ep,fp⟩:=h.paths.form
  subst fw fh fp
  have lw:=hsm.w
  have lh:=hsm.h
  unfold mxR at lw lh
  obtain⟨Q,hQ⟩:∃ Q,shapeB s=Q:=⟨_,rfl⟩
  rw[hQ]
  have o:Old H (H++[(⟨shC s (.slice aw s.w.length ew) (.slice ah s.h.length eh) (.slice ap_ s.paths.length ep) vc vd vda vf vt,0,true⟩:Blk)]):=Old.app' _ _
  have g1:(H++[(⟨shC s (.slice aw s.w.length ew) (.slice ah s.h.length eh) (.slice ap_ s.paths.length ep) vc vd vda vf vt,0,true⟩:Blk)])[H.length]?=some ⟨shC s (.slice aw s.w.length ew) (.slice ah s.h.length eh) (.slice ap_ s.paths.length ep) vc vd vda vf vt,0,true⟩:=by rw[hget_app0];rfl
  refine XCal.of hm Tryz.func63 rfl (fun xs w=>Tryz.call63 xs w) Tryz.ntmps63 Tryz.results63 rfl ?_
  refine wcode_cut (fun T K D=>D=[]∧K=H++[⟨shC s (.slice aw s.w.length ew) (.slice ah s.h.length eh) (.slice ap_ s.paths.length ep) vc vd vda vf vt,0,true⟩]∧T 1=ap H.length 0 0) ?_ ?_
  · (refine sg trivial ?_;try exact⟨⟩)
  generalize H++[(⟨shC s (.slice aw s.w.length ew) (.slice ah s.h.length eh) (.slice ap_ s.paths.length ep) vc vd vda vf vt,0,true⟩:Blk)]=K at *
  rintro T K' D ⟨rfl,rfl,t1⟩
  refine wcode_cut (fun T K D=>D=[]∧K=K'∧T 1=ap H.length 0 0∧formA s=true) ?_ ?_
  · cases hA:formA s
    · have hf:=formB_A hA
      have hQf:Q=false:=by rw[← hQ];unfold shapeB;rw[hf];rfl
      subst hQf
      unfold formA at hA
      simp only[Bool.not_eq_false',Bool.or_eq_true,Bool.and_eq_true,decide_eq_true_eq,beq_iff_eq,bne_iff_ne,ne_eq] at hA
      by_cases f1:s.form<0
      · (refine sg (et t1 (et g1 (dt f1))) ?_;try exact⟨⟩)
      by_cases f2:3<s.form
      · (refine sg (et t1 (et g1 (et (df f1) (dt f2)))) ?_;try exact⟨⟩)
      by_cases g:s.form=2
      · by_cases n1:s.n<2
        · (refine sg (et t1 (et g1 (et (df f1) (et (df f2) (et (bt g) (dt n1)))))) ?_;try exact⟨⟩)
        · (refine sg (et t1 (et g1 (et (df f1) (et (df f2) (et (bt g) (et (df n1) (dt (show 16<s.n by omega)))))))) ?_;try exact⟨⟩)
      · (refine sg (et t1 (et g1 (et (df f1) (et (df f2) (et (bf g) (et (nf g) (nf (show ¬ s.n=0 by omega)))))))) ?_;try exact⟨⟩)
    · unfold formA at hA
      simp only[Bool.not_eq_true',Bool.or_eq_false_iff,Bool.and_eq_false_iff,decide_eq_false_iff_not,beq_eq_false_iff_ne,bne_eq_false_iff_eq,ne_eq] at hA
      obtain⟨f1,f2,h3,h4⟩:=hA
      by_cases g:s.form=2
      · (refine sg (et t1 (et g1 (et (df f1) (et (df f2) (et (bt g) (et (nt g) (et (df (show ¬ s.n<2 by omega)) (df (show ¬ 16<s.n by omega))))))))) ?_;try exact⟨⟩)
      · (refine sg (et t1 (et g1 (et (df f1) (et (df f2) (et (bf g) (et (nf g) (nt (show s.n=0 by omega)))))))) ?_;try exact⟨⟩)
  clear t1
  rintro T K D ⟨rfl,rfl,t1,hA⟩
  rw[shapeB_R s hA] at hQ
  refine wcode_cut (fun T K' D=>D=[]∧K'=K∧T 1=ap H.length 0 0∧(((s.rule==0)||(s.rule==1))&&(paintB s.paint&&(cksB s.colors&&(keysB s.width&&(keysB s.frm&&(keysB s.to&&(((s.cap==0)||(s.cap==1))&&dashB s.dash)))))))=Q) ?_ ?_
  · have k1:=rkeyR_ s.w _ K (h.w.old KyE.m o)
    have k2:=rkeyR_ s.h _ K (h.h.old KyE.m o)
    have k3:=rpkeys_ s.paths _ K (h.paths.old PkE.m o)
    generalize (((s.rule==0)||(s.rule==1))&&(paintB s.paint&&(cksB s.colors&&(keysB s.width&&(keysB s.frm&&(keysB s.to&&(((s.cap==0)||(s.cap==1))&&dashB s.dash)))))))=R at *
    unfold formF at hQ
    generalize keysB s.w=p1 at *
    generalize keysB s.h=p2 at *
    generalize pksB s.paths=p3 at *
    by_cases g:s.form=3
    · rw[if_pos g] at hQ
      have w1:IntKind.i64.wrap ((s.w.length:Int)+(s.h.length:Int))=(s.w.length:Int)+(s.h.length:Int):=wi (by omega) (by omega)
      have hl:decide ((0:Int)<(s.w.length:Int)+(s.h.length:Int)) = !decide ((s.w.length:Int)+(s.h.length:Int)=0):=by
        by_cases e:(s.w.length:Int)+(s.h.length:Int)=0
        · rw[dt e,df (show ¬ (0:Int)<(s.w.length:Int)+(s.h.length:Int) by omega)];rfl
        · rw[df e,dt (show (0:Int)<(s.w.length:Int)+(s.h.length:Int) by omega)];rfl
      cases h1:p1 with
      | false=>
        simp only[h1,Bool.true_and,Bool.false_and] at hQ
        try subst hQ
        (refine sg (et t1 (et g1 (et (bt g) (et (nt g) (et w1 (et hl h1)))))) ?_;try exact⟨⟩)
        repeat ((first|refine(k1).x ?_|refine(k2).x ?_|refine(k3).x ?_|refine drawnF ?_ (by decide +kernel));(refine sg (et t1 (et g1 (et (bt g) (et (nt g) (et w1 (et hl h1)))))) ?_;try exact⟨⟩))
      | true=>
        cases h2:p2 with
        | false=>
          simp only[h1,h2,Bool.true_and,Bool.false_and] at hQ
          try subst hQ
          (refine sg (et t1 (et g1 (et (bt g) (et (nt g) (et w1 (et hl (et h1 h2))))))) ?_;try exact⟨⟩)
          repeat ((first|refine(k1).x ?_|refine(k2).x ?_|refine(k3).x ?_|refine drawnF ?_ (by decide +kernel));(refine sg (et t1 (et g1 (et (bt g) (et (nt g) (et w1 (et hl (et h1 h2))))))) ?_;try exact⟨⟩))
        | true=>
          cases h3:p3 with
          | false=>
            simp only[h1,h2,h3,Bool.true_and,Bool.false_and] at hQ
            try subst hQ
            (refine sg (et t1 (et g1 (et (bt g) (et (nt g) (et w1 (et hl (et h1 (et h2 h3)))))))) ?_;try exact⟨⟩)
            repeat ((first|refine(k1).x ?_|refine(k2).x ?_|refine(k3).x ?_|refine drawnF ?_ (by decide +kernel));(refine sg (et t1 (et g1 (et (bt g) (et (nt g) (et w1 (et hl (et h1 (et h2 h3)))))))) ?_;try exact⟨⟩))
          | true=>
            cases h4:decide ((s.w.length:Int)+(s.h.length:Int)=0) with
            | false=>
              simp only[h1,h2,h3,h4,Bool.true_and,Bool.false_and] at hQ
              try subst hQ
              (refine sg (et t1 (et g1 (et (bt g) (et (nt g) (et w1 (et hl (et h1 (et h2 (et h3 h4))))))))) ?_;try exact⟨⟩)
              repeat ((first|refine(k1).x ?_|refine(k2).x ?_|refine(k3).x ?_|refine drawnF ?_ (by decide +kernel));(refine sg (et t1 (et g1 (et (bt g) (et (nt g) (et w1 (et hl (et h1 (et h2 (et h3 h4))))))))) ?_;try exact⟨⟩))
            | true=>
              simp only[h1,h2,h3,h4,Bool.true_and,Bool.false_and] at hQ
              try subst hQ
              (refine sg (et t1 (et g1 (et (bt g) (et (nt g) (et w1 (et hl (et h1 (et h2 (et h3 h4))))))))) ?_;try exact⟨⟩)
              repeat ((first|refine(k1).x ?_|refine(k2).x ?_|refine(k3).x ?_|refine drawnF ?_ (by decide +kernel));(refine sg (et t1 (et g1 (et (bt g) (et (nt g) (et w1 (et hl (et h1 (et h2 (et h3 h4))))))))) ?_;try exact⟨⟩))
    · rw[if_neg g] at hQ
      have hl:decide ((0:Int)<(s.paths.length:Int)) = !decide ((s.paths.length:Int)=0):=by
        by_cases e:(s.paths.length:Int)=0
        · rw[dt e,df (show ¬ (0:Int)<(s.paths.length:Int) by omega)];rfl
        · rw[df e,dt (show (0:Int)<(s.paths.length:Int) by omega)];rfl
      cases h1:p1 with
      | false=>
        simp only[h1,Bool.true_and,Bool.false_and] at hQ
        try subst hQ
        (refine sg (et t1 (et g1 (et (bf g) (et (nf g) (et hl h1))))) ?_;try exact⟨⟩)
        repeat ((first|refine(k1).x ?_|refine(k2).x ?_|refine(k3).x ?_|refine drawnF ?_ (by decide +kernel));(refine sg (et t1 (et g1 (et (bf g) (et (nf g) (et hl h1))))) ?_;try exact⟨⟩))
      | true=>
        cases h2:p2 with
        | false=>
          simp only[h1,h2,Bool.true_and,Bool.false_and] at hQ
          try subst hQ
          (refine sg (et t1 (et g1 (et (bf g) (et (nf g) (et hl (et h1 h2)))))) ?_;try exact⟨⟩)
          repeat ((first|refine(k1).x ?_|refine(k2).x ?_|refine(k3).x ?_|refine drawnF ?_ (by decide +kernel));(refine sg (et t1 (et g1 (et (bf g) (et (nf g) (et hl (et h1 h2)))))) ?_;try exact⟨⟩))
        | true=>
          cases h3:p3 with
          | false=>
            simp only[h1,h2,h3,Bool.true_and,Bool.false_and] at hQ
            try subst hQ
            (refine sg (et t1 (et g1 (et (bf g) (et (nf g) (et hl (et h1 (et h2 h3))))))) ?_;try exact⟨⟩)
            repeat ((first|refine(k1).x ?_|refine(k2).x ?_|refine(k3).x ?_|refine drawnF ?_ (by decide +kernel));(refine sg (et t1 (et g1 (et (bf g) (et (nf g) (et hl (et h1 (et h2 h3))))))) ?_;try exact⟨⟩))
          | true=>
            cases h4:decide ((s.paths.length:Int)=0) with
            | false=>
              simp only[h1,h2,h3,h4,Bool.true_and,Bool.false_and] at hQ
              try subst hQ
              (refine sg (et t1 (et g1 (et (bf g) (et (nf g) (et hl (et h1 (et h2 (et h3 h4)))))))) ?_;try exact⟨⟩)
              repeat ((first|refine(k1).x ?_|refine(k2).x ?_|refine(k3).x ?_|refine drawnF ?_ (by decide +kernel));(refine sg (et t1 (et g1 (et (bf g) (et (nf g) (et hl (et h1 (et h2 (et h3 h4)))))))) ?_;try exact⟨⟩))
            | true=>
              simp only[h1,h2,h3,h4,Bool.true_and,Bool.false_and] at hQ
              try subst hQ
              (refine sg (et t1 (et g1 (et (bf g) (et (nf g) (et hl (et h1 (et h2 (et h3 h4)))))))) ?_;try exact⟨⟩)
              repeat ((first|refine(k1).x ?_|refine(k2).x ?_|refine(k3).x ?_|refine drawnF ?_ (by decide +kernel));(refine sg (et t1 (et g1 (et (bf g) (et (nf g) (et hl (et h1 (et h2 (et h3 h4)))))))) ?_;try exact⟨⟩))
  clear t1 hQ
  rintro T K2 D ⟨rfl,rfl,t1,hQ⟩
  have k3:=rcolors_ s.colors _ K2 (h.colors.old CkE.m o)
  have k4:=rkeyR_ s.width _ K2 (h.width.old KyE.m o)
  have k5:=rkeyR_ s.frm _ K2 (h.frm.old KyE.m o)
  have k6:=rkeyR_ s.to _ K2 (h.to.old KyE.m o)
  have k7:=rdashes_ s.dash _ K2 (h.dash.old InE.m o)
  have k2:=fun H=>rpaint13_ s.paint H
  generalize paintB s.paint=p2 at *
  generalize cksB s.colors=p3 at *
  generalize keysB s.width=p4 at *
  generalize keysB s.frm=p5 at *
  generalize keysB s.to=p6 at *
  generalize dashB s.dash=p7 at *
  rcases or_tri s.rule with ⟨r,r'⟩|⟨r,r2,r'⟩|⟨r,r2,r'⟩
  case' inr.inr=>
    simp only[r',Bool.false_and] at hQ
    subst hQ
    (refine sg (et t1 (et g1 (et r r2))) ?_;try exact⟨⟩)
    done
  case' inl => have r2 := r
  all_goals
    cases h2 : p2 with
    | false =>
      first
      | (simp only [r', h2, Bool.true_and, Bool.and_true, Bool.false_and, Bool.and_false] at hQ
         subst hQ
         (refine sg (et t1 (et g1 (et r (et r2 h2)))) ?_; try exact ⟨⟩)
         repeat ((first|refine(k2 _).x ?_|refine(k3).x ?_|refine(k4).x ?_|refine(k5).x ?_|refine(k6).x ?_|refine(k7).x ?_|refine drawnF ?_ (by decide +kernel));(refine sg (et t1 (et g1 (et r (et r2 h2)))) ?_;try exact⟨⟩))
         done)
      | (rcases or_tri s.cap with ⟨c,c'⟩|⟨c,c2,c'⟩|⟨c,c2,c'⟩
         case' inl=>have c2:=c
         all_goals
           simp only[r',c',h2,Bool.true_and,Bool.and_true,Bool.false_and,Bool.and_false] at hQ
           subst hQ
           (refine sg (et t1 (et g1 (et r (et r2 h2)))) ?_;try exact⟨⟩)
           repeat ((first|refine(k2 _).x ?_|refine(k3).x ?_|refine(k4).x ?_|refine(k5).x ?_|refine(k6).x ?_|refine(k7).x ?_|refine drawnF ?_ (by decide +kernel));(refine sg (et t1 (et g1 (et r (et r2 (et c (et c2 h2)))))) ?_;try exact⟨⟩)))
    | true=>
      cases h3:p3 with
      | false=>
        first
        | (simp only[r',h2,h3,Bool.true_and,Bool.and_true,Bool.false_and,Bool.and_false] at hQ
           subst hQ
           (refine sg (et t1 (et g1 (et r (et r2 (et h2 h3))))) ?_;try exact⟨⟩)
           repeat ((first|refine(k2 _).x ?_|refine(k3).x ?_|refine(k4).x ?_|refine(k5).x ?_|refine(k6).x ?_|refine(k7).x ?_|refine drawnF ?_ (by decide +kernel));(refine sg (et t1 (et g1 (et r (et r2 (et h2 h3))))) ?_;try exact⟨⟩))
           done)
        | (rcases or_tri s.cap with ⟨c,c'⟩|⟨c,c2,c'⟩|⟨c,c2,c'⟩
           case' inl=>have c2:=c
           all_goals
             simp only[r',c',h2,h3,Bool.true_and,Bool.and_true,Bool.false_and,Bool.and_false] at hQ
             subst hQ
             (refine sg (et t1 (et g1 (et r (et r2 (et h2 h3))))) ?_;try exact⟨⟩)
             repeat ((first|refine(k2 _).x ?_|refine(k3).x ?_|refine(k4).x ?_|refine(k5).x ?_|refine(k6).x ?_|refine(k7).x ?_|refine drawnF ?_ (by decide +kernel));(refine sg (et t1 (et g1 (et r (et r2 (et c (et c2 (et h2 h3))))))) ?_;try exact⟨⟩)))
      | true=>
        cases h4:p4 with
        | false=>
          first
          | (simp only[r',h2,h3,h4,Bool.true_and,Bool.and_true,Bool.false_and,Bool.and_false] at hQ
             subst hQ
             (refine sg (et t1 (et g1 (et r (et r2 (et h2 (et h3 h4)))))) ?_;try exact⟨⟩)
             repeat ((first|refine(k2 _).x ?_|refine(k3).x ?_|refine(k4).x ?_|refine(k5).x ?_|refine(k6).x ?_|refine(k7).x ?_|refine drawnF ?_ (by decide +kernel));(refine sg (et t1 (et g1 (et r (et r2 (et h2 (et h3 h4)))))) ?_;try exact⟨⟩))
             done)
          | (rcases or_tri s.cap with ⟨c,c'⟩|⟨c,c2,c'⟩|⟨c,c2,c'⟩
             case' inl=>have c2:=c
             all_goals
               simp only[r',c',h2,h3,h4,Bool.true_and,Bool.and_true,Bool.false_and,Bool.and_false] at hQ
               subst hQ
               (refine sg (et t1 (et g1 (et r (et r2 (et h2 (et h3 h4)))))) ?_;try exact⟨⟩)
               repeat ((first|refine(k2 _).x ?_|refine(k3).x ?_|refine(k4).x ?_|refine(k5).x ?_|refine(k6).x ?_|refine(k7).x ?_|refine drawnF ?_ (by decide +kernel));(refine sg (et t1 (et g1 (et r (et r2 (et c (et c2 (et h2 (et h3 h4)))))))) ?_;try exact⟨⟩)))
        | true=>
          cases h5:p5 with
          | false=>
            first
            | (simp only[r',h2,h3,h4,h5,Bool.true_and,Bool.and_true,Bool.false_and,Bool.and_false] at hQ
               subst hQ
               (refine sg (et t1 (et g1 (et r (et r2 (et h2 (et h3 (et h4 h5))))))) ?_;try exact⟨⟩)
               repeat ((first|refine(k2 _).x ?_|refine(k3).x ?_|refine(k4).x ?_|refine(k5).x ?_|refine(k6).x ?_|refine(k7).x ?_|refine drawnF ?_ (by decide +kernel));(refine sg (et t1 (et g1 (et r (et r2 (et h2 (et h3 (et h4 h5))))))) ?_;try exact⟨⟩))
               done)
            | (rcases or_tri s.cap with ⟨c,c'⟩|⟨c,c2,c'⟩|⟨c,c2,c'⟩
               case' inl=>have c2:=c
               all_goals
                 simp only[r',c',h2,h3,h4,h5,Bool.true_and,Bool.and_true,Bool.false_and,Bool.and_false] at hQ
                 subst hQ
                 (refine sg (et t1 (et g1 (et r (et r2 (et h2 (et h3 (et h4 h5))))))) ?_;try exact⟨⟩)
                 repeat ((first|refine(k2 _).x ?_|refine(k3).x ?_|refine(k4).x ?_|refine(k5).x ?_|refine(k6).x ?_|refine(k7).x ?_|refine drawnF ?_ (by decide +kernel));(refine sg (et t1 (et g1 (et r (et r2 (et c (et c2 (et h2 (et h3 (et h4 h5))))))))) ?_;try exact⟨⟩)))
          | true=>
            cases h6:p6 with
            | false=>
              first
              | (simp only[r',h2,h3,h4,h5,h6,Bool.true_and,Bool.and_true,Bool.false_and,Bool.and_false] at hQ
                 subst hQ
                 (refine sg (et t1 (et g1 (et r (et r2 (et h2 (et h3 (et h4 (et h5 h6)))))))) ?_;try exact⟨⟩)
                 repeat ((first|refine(k2 _).x ?_|refine(k3).x ?_|refine(k4).x ?_|refine(k5).x ?_|refine(k6).x ?_|refine(k7).x ?_|refine drawnF ?_ (by decide +kernel));(refine sg (et t1 (et g1 (et r (et r2 (et h2 (et h3 (et h4 (et h5 h6)))))))) ?_;try exact⟨⟩))
                 done)
              | (rcases or_tri s.cap with ⟨c,c'⟩|⟨c,c2,c'⟩|⟨c,c2,c'⟩
                 case' inl=>have c2:=c
                 all_goals
                   simp only[r',c',h2,h3,h4,h5,h6,Bool.true_and,Bool.and_true,Bool.false_and,Bool.and_false] at hQ
                   subst hQ
                   (refine sg (et t1 (et g1 (et r (et r2 (et h2 (et h3 (et h4 (et h5 h6)))))))) ?_;try exact⟨⟩)
                   repeat ((first|refine(k2 _).x ?_|refine(k3).x ?_|refine(k4).x ?_|refine(k5).x ?_|refine(k6).x ?_|refine(k7).x ?_|refine drawnF ?_ (by decide +kernel));(refine sg (et t1 (et g1 (et r (et r2 (et c (et c2 (et h2 (et h3 (et h4 (et h5 h6)))))))))) ?_;try exact⟨⟩)))
            | true=>
              first
              | (simp only[r',h2,h3,h4,h5,h6,Bool.true_and,Bool.and_true,Bool.false_and,Bool.and_false] at hQ
                 subst hQ
                 (refine sg (et t1 (et g1 (et r (et r2 (et h2 (et h3 (et h4 (et h5 h6)))))))) ?_;try exact⟨⟩)
                 repeat ((first|refine(k2 _).x ?_|refine(k3).x ?_|refine(k4).x ?_|refine(k5).x ?_|refine(k6).x ?_|refine(k7).x ?_|refine drawnF ?_ (by decide +kernel));(refine sg (et t1 (et g1 (et r (et r2 (et h2 (et h3 (et h4 (et h5 h6)))))))) ?_;try exact⟨⟩))
                 done)
              | (rcases or_tri s.cap with ⟨c,c'⟩|⟨c,c2,c'⟩|⟨c,c2,c'⟩
                 case' inl=>have c2:=c
                 all_goals
                   simp only[r',c',h2,h3,h4,h5,h6,Bool.true_and,Bool.and_true,Bool.false_and,Bool.and_false] at hQ
                   subst hQ
                   (refine sg (et t1 (et g1 (et r (et r2 (et h2 (et h3 (et h4 (et h5 h6)))))))) ?_;try exact⟨⟩)
                   repeat ((first|refine(k2 _).x ?_|refine(k3).x ?_|refine(k4).x ?_|refine(k5).x ?_|refine(k6).x ?_|refine(k7).x ?_|refine drawnF ?_ (by decide +kernel));(refine sg (et t1 (et g1 (et r (et r2 (et c (et c2 (et h2 (et h3 (et h4 (et h5 h6)))))))))) ?_;try exact⟨⟩)))
end Go.Proofs.YthhbglkokpablaaGreat
/- Documents: the walks of what the document's own answer judges: layers. -/
namespace Go.Proofs.YthhbglkokpablaaGreat
open Go Go.RowKit E
attribute [local irreducible] XRun XOps XCode XCal XLoop XQ SemCall
set_option linter.unusedSimpArgs false
set_option linter.unusedVariables false
theorem eqG_nil {α:Type} {q:α→α→Bool} (l:List α):eqG q l []=decide ((l.length:Int)=0):=by
 cases l with
 | nil=>rfl
 | cons x t=>rw[df (by simp;omega)];rfl
def sumL (s:Sh):Int:=(s.w.length:Int)+(s.h.length:Int)+(s.paths.length:Int)+(s.colors.length:Int)+(s.width.length:Int)+(s.dash.length:Int)+(s.frm.length:Int)+(s.to.length:Int)
theorem bareB_R (s:Sh):bareB s=((s.form==0)&&((s.n==0)&&(decide (sumL s=0)&&(!s.fill&&((s.rule==0)&&(pntQ s.paint pnt00&&(!s.stroke&&(c4Q s.line c400&&(s.cap==0))))))))):=by
 unfold bareB shQ shP shK sh00
 simp only[eqG_nil]
 rw[Bool.eq_iff_iff]
 simp only[Bool.and_eq_true,decide_eq_true_eq,beq_iff_eq,Bool.not_eq_true']
 constructor
 ·rintro⟨⟨⟨⟨⟨⟨⟨⟨⟨⟨⟨a1,a2⟩,a3⟩,a4⟩,a5⟩,a6⟩,a7⟩,a8⟩,⟨⟨⟨b1,b2⟩,b3⟩,b4⟩,b5⟩,c1⟩,c2⟩,c3⟩
  exact⟨a1,a2,by unfold sumL;omega,a3,a4,a5,a6,a7,a8⟩
 ·rintro⟨a1,a2,hs,a3,a4,a5,a6,a7,a8⟩
  unfold sumL at hs
  exact⟨⟨⟨⟨⟨⟨⟨⟨⟨⟨⟨a1,a2⟩,a3⟩,a4⟩,a5⟩,a6⟩,a7⟩,a8⟩,⟨⟨⟨by omega,by omega⟩,by omega⟩,by omega⟩,by omega⟩,by omega⟩,by omega⟩,by omega⟩
set_option maxRecDepth 100000 in
set_option maxHeartbeats 8000000 in
theorem rbare_ (s:Sh) (vw vh vp vc vd vda vf vt:Value) (H:AH) (h:ShV H s vw vh vp vc vd vda vf vt) (hsm:ShM s):SemCall Tryz.prog 62 [shV s vw vh vp vc vd vda vf vt] H (.bool (bareB s)) H []:=by
 refine pure_of ?_ rfl
 obtain⟨a1,e1,f1⟩:=h.w.form
 obtain⟨a2,e2,f2⟩:=h.h.form
 obtain⟨a3,e3,f3⟩:=h.paths.form
 obtain⟨a4,e4,f4⟩:=h.colors.form
 obtain⟨a5,e5,f5⟩:=h.width.form
 obtain⟨a6,e6,f6⟩:=h.dash.form
 obtain⟨a7,e7,f7⟩:=h.frm.form
 obtain⟨a8,e8,f8⟩:=h.to.form
 subst f1 f2 f3 f4 f5 f6 f7 f8
 have l1:=hsm.w
 have l2:=hsm.h
 have l3:=hsm.paths
 have l4:=hsm.colors
 have l5:=hsm.width
 have l6:=hsm.dash
 have l7:=hsm.frm
 have l8:=hsm.to
 unfold mxR at l1 l2 l3 l4 l5 l6 l7 l8
 obtain⟨Q,hQ⟩:∃ Q,bareB s=Q:=⟨_,rfl⟩
 rw[hQ]
 rw[bareB_R] at hQ
 have w1:IntKind.i64.wrap ((s.w.length:Int)+(s.h.length:Int))=(s.w.length:Int)+(s.h.length:Int):=wi (by omega) (by omega)
 have w2:IntKind.i64.wrap ((s.w.length:Int)+(s.h.length:Int)+(s.paths.length:Int))=(s.w.length:Int)+(s.h.length:Int)+(s.paths.length:Int):=wi (by omega) (by omega)
 have w3:IntKind.i64.wrap ((s.w.length:Int)+(s.h.length:Int)+(s.paths.length:Int)+(s.colors.length:Int))=(s.w.length:Int)+(s.h.length:Int)+(s.paths.length:Int)+(s.colors.length:Int):=wi (by omega) (by omega)
 have w4:IntKind.i64.wrap ((s.w.length:Int)+(s.h.length:Int)+(s.paths.length:Int)+(s.colors.length:Int)+(s.width.length:Int))=(s.w.length:Int)+(s.h.length:Int)+(s.paths.length:Int)+(s.colors.length:Int)+(s.width.length:Int):=wi (by omega) (by omega)
 have w5:IntKind.i64.wrap ((s.w.length:Int)+(s.h.length:Int)+(s.paths.length:Int)+(s.colors.length:Int)+(s.width.length:Int)+(s.dash.length:Int))=(s.w.length:Int)+(s.h.length:Int)+(s.paths.length:Int)+(s.colors.length:Int)+(s.width.length:Int)+(s.dash.length:Int):=wi (by omega) (by omega)
 have w6:IntKind.i64.wrap ((s.w.length:Int)+(s.h.length:Int)+(s.paths.length:Int)+(s.colors.length:Int)+(s.width.length:Int)+(s.dash.length:Int)+(s.frm.length:Int))=(s.w.length:Int)+(s.h.length:Int)+(s.paths.length:Int)+(s.colors.length:Int)+(s.width.length:Int)+(s.dash.length:Int)+(s.frm.length:Int):=wi (by omega) (by omega)
 have w7:IntKind.i64.wrap ((s.w.length:Int)+(s.h.length:Int)+(s.paths.length:Int)+(s.colors.length:Int)+(s.width.length:Int)+(s.dash.length:Int)+(s.frm.length:Int)+(s.to.length:Int))=sumL s:=wi (by omega) (by omega)
 have hz:(sumL s==0)=decide (sumL s=0):=rfl
 generalize sumL s=SL at *
 obtain⟨NF,hNF⟩:∃ b,s.fill = !b:=⟨!s.fill,by simp⟩
 obtain⟨NS,hNS⟩:∃ b,s.stroke = !b:=⟨!s.stroke,by simp⟩
 rw[hNF,hNS,Bool.not_not,Bool.not_not] at hQ
 cases h1:(s.form==0) with
 | false=>
  simp only[h1,Bool.true_and,Bool.false_and,Bool.not_true,Bool.not_false] at hQ
  try unfold pntQ at h6
  try unfold c4Q at h8
  try simp only[pnt00,c400] at h6
  try simp only[c400] at h8
  subst hQ
  refine XCal.of hm Tryz.func62 rfl (fun xs w=>Tryz.call62 xs w) Tryz.ntmps62 Tryz.results62 rfl ?_
  (refine sg (et w1 (et w2 (et w3 (et w4 (et w5 (et w6 (et w7 (et hz (et hNF (et hNS (et Bool.not_not h1))))))))))) ?_;try exact⟨⟩)
 | true=>
  cases h2:(s.n==0) with
  | false=>
   simp only[h1,h2,Bool.true_and,Bool.false_and,Bool.not_true,Bool.not_false] at hQ
   try unfold pntQ at h6
   try unfold c4Q at h8
   try simp only[pnt00,c400] at h6
   try simp only[c400] at h8
   subst hQ
   refine XCal.of hm Tryz.func62 rfl (fun xs w=>Tryz.call62 xs w) Tryz.ntmps62 Tryz.results62 rfl ?_
   (refine sg (et w1 (et w2 (et w3 (et w4 (et w5 (et w6 (et w7 (et hz (et hNF (et hNS (et Bool.not_not (et h1 h2)))))))))))) ?_;try exact⟨⟩)
  | true=>
   cases h3:decide (SL=0) with
   | false=>
    simp only[h1,h2,h3,Bool.true_and,Bool.false_and,Bool.not_true,Bool.not_false] at hQ
    try unfold pntQ at h6
    try unfold c4Q at h8
    try simp only[pnt00,c400] at h6
    try simp only[c400] at h8
    subst hQ
    refine XCal.of hm Tryz.func62 rfl (fun xs w=>Tryz.call62 xs w) Tryz.ntmps62 Tryz.results62 rfl ?_
    (refine sg (et w1 (et w2 (et w3 (et w4 (et w5 (et w6 (et w7 (et hz (et hNF (et hNS (et Bool.not_not (et h1 (et h2 h3))))))))))))) ?_;try exact⟨⟩)
   | true=>
    cases h4:NF with
    | false=>
     simp only[h1,h2,h3,h4,Bool.true_and,Bool.false_and,Bool.not_true,Bool.not_false] at hQ
     try unfold pntQ at h6
     try unfold c4Q at h8
     try simp only[pnt00,c400] at h6
     try simp only[c400] at h8
     subst hQ
     refine XCal.of hm Tryz.func62 rfl (fun xs w=>Tryz.call62 xs w) Tryz.ntmps62 Tryz.results62 rfl ?_
     (refine sg (et w1 (et w2 (et w3 (et w4 (et w5 (et w6 (et w7 (et hz (et hNF (et hNS (et Bool.not_not (et h1 (et h2 (et h3 h4)))))))))))))) ?_;try exact⟨⟩)
    | true=>
     cases h5:(s.rule==0) with
     | false=>
      simp only[h1,h2,h3,h4,h5,Bool.true_and,Bool.false_and,Bool.not_true,Bool.not_false] at hQ
      try unfold pntQ at h6
      try unfold c4Q at h8
      try simp only[pnt00,c400] at h6
      try simp only[c400] at h8
      subst hQ
      refine XCal.of hm Tryz.func62 rfl (fun xs w=>Tryz.call62 xs w) Tryz.ntmps62 Tryz.results62 rfl ?_
      (refine sg (et w1 (et w2 (et w3 (et w4 (et w5 (et w6 (et w7 (et hz (et hNF (et hNS (et Bool.not_not (et h1 (et h2 (et h3 (et h4 h5))))))))))))))) ?_;try exact⟨⟩)
     | true=>
      cases h6:pntQ s.paint pnt00 with
      | false=>
       simp only[h1,h2,h3,h4,h5,h6,Bool.true_and,Bool.false_and,Bool.not_true,Bool.not_false] at hQ
       try unfold pntQ at h6
       try unfold c4Q at h8
       try simp only[pnt00,c400] at h6
       try simp only[c400] at h8
       subst hQ
       refine XCal.of hm Tryz.func62 rfl (fun xs w=>Tryz.call62 xs w) Tryz.ntmps62 Tryz.results62 rfl ?_
       (refine sg (et w1 (et w2 (et w3 (et w4 (et w5 (et w6 (et w7 (et hz (et hNF (et hNS (et Bool.not_not (et h1 (et h2 (et h3 (et h4 (et h5 h6)))))))))))))))) ?_;try exact⟨⟩)
      | true=>
       cases h7:NS with
       | false=>
        simp only[h1,h2,h3,h4,h5,h6,h7,Bool.true_and,Bool.false_and,Bool.not_true,Bool.not_false] at hQ
        try unfold pntQ at h6
        try unfold c4Q at h8
        try simp only[pnt00,c400] at h6
        try simp only[c400] at h8
        subst hQ
        refine XCal.of hm Tryz.func62 rfl (fun xs w=>Tryz.call62 xs w) Tryz.ntmps62 Tryz.results62 rfl ?_
        (refine sg (et w1 (et w2 (et w3 (et w4 (et w5 (et w6 (et w7 (et hz (et hNF (et hNS (et Bool.not_not (et h1 (et h2 (et h3 (et h4 (et h5 (et h6 h7))))))))))))))))) ?_;try exact⟨⟩)
       | true=>
        cases h8:c4Q s.line c400 with
        | false=>
         simp only[h1,h2,h3,h4,h5,h6,h7,h8,Bool.true_and,Bool.false_and,Bool.not_true,Bool.not_false] at hQ
         try unfold pntQ at h6
         try unfold c4Q at h8
         try simp only[pnt00,c400] at h6
         try simp only[c400] at h8
         subst hQ
         refine XCal.of hm Tryz.func62 rfl (fun xs w=>Tryz.call62 xs w) Tryz.ntmps62 Tryz.results62 rfl ?_
         (refine sg (et w1 (et w2 (et w3 (et w4 (et w5 (et w6 (et w7 (et hz (et hNF (et hNS (et Bool.not_not (et h1 (et h2 (et h3 (et h4 (et h5 (et h6 (et h7 h8)))))))))))))))))) ?_;try exact⟨⟩)
        | true=>
         cases h9:(s.cap==0) with
         | false=>
          simp only[h1,h2,h3,h4,h5,h6,h7,h8,h9,Bool.true_and,Bool.false_and,Bool.not_true,Bool.not_false] at hQ
          try unfold pntQ at h6
          try unfold c4Q at h8
          try simp only[pnt00,c400] at h6
          try simp only[c400] at h8
          subst hQ
          refine XCal.of hm Tryz.func62 rfl (fun xs w=>Tryz.call62 xs w) Tryz.ntmps62 Tryz.results62 rfl ?_
          (refine sg (et w1 (et w2 (et w3 (et w4 (et w5 (et w6 (et w7 (et hz (et hNF (et hNS (et Bool.not_not (et h1 (et h2 (et h3 (et h4 (et h5 (et h6 (et h7 (et h8 h9))))))))))))))))))) ?_;try exact⟨⟩)
         | true=>
          simp only[h1,h2,h3,h4,h5,h6,h7,h8,h9,Bool.true_and,Bool.false_and,Bool.not_true,Bool.not_false] at hQ
          try unfold pntQ at h6
          try unfold c4Q at h8
          try simp only[pnt00,c400] at h6
          try simp only[c400] at h8
          subst hQ
          refine XCal.of hm Tryz.func62 rfl (fun xs w=>Tryz.call62 xs w) Tryz.ntmps62 Tryz.results62 rfl ?_
          (refine sg (et w1 (et w2 (et w3 (et w4 (et w5 (et w6 (et w7 (et hz (et hNF (et hNS (et Bool.not_not (et h1 (et h2 (et h3 (et h4 (et h5 (et h6 (et h7 (et h8 h9))))))))))))))))))) ?_;try exact⟨⟩)
theorem rtick18_ (t:Int) (H:AH):SemCall Tryz.prog 31 [.int .i64 t] H (.bool (tickB t)) H []:=by
 refine pure_of ?_ rfl
 unfold tickB
 cases h1:decide (-1073741824≤t) with
 | false=>
  refine XCal.of hm Tryz.func31 rfl (fun xs w=>Tryz.call31 xs w) Tryz.ntmps31 Tryz.results31 rfl ?_
  (refine sg h1 ?_;try exact⟨⟩)
 | true=>
  refine XCal.of hm Tryz.func31 rfl (fun xs w=>Tryz.call31 xs w) Tryz.ntmps31 Tryz.results31 rfl ?_
  (refine sg h1 ?_;try exact⟨⟩)
/-- A layer whose rows are no longer than there is room for. -/
structure LyM (l:Ly):Prop where
 mask:l.mask.2.length≤mxR
 remap:l.remap.length≤mxR
 shape:ShM l.shape
def layA (l:Ly):Bool:=((l.kind==0)||(l.kind==1))&&(decide (0≤l.matte)&&(decide (l.matte≤2)&&(tickB l.in_&&(tickB l.out&&(tickB l.start&&decide (l.in_<l.out))))))
theorem layerB_R (l:Ly):layerB l=(layA l&&(l.keys.all keysB&&(maskB l.mask&&(if l.kind=1 then bareB l.shape else (l.comp==0)&&(decide ((l.remap.length:Int)=0)&&shapeB l.shape))))):=by
 unfold layerB layA
 rw[Bool.eq_iff_iff]
 by_cases h:l.kind=1
 ·rw[if_pos h,if_pos h]
  simp only[Bool.and_eq_true]
  constructor
  ·rintro⟨⟨⟨⟨⟨⟨a1,a2⟩,a3⟩,⟨⟨b1,b2⟩,b3⟩,b4⟩,c⟩,d⟩,e⟩
   exact⟨⟨a1,a2,a3,b1,b2,b3,b4⟩,d,c,e⟩
  ·rintro⟨⟨a1,a2,a3,b1,b2,b3,b4⟩,d,c,e⟩
   exact⟨⟨⟨⟨⟨⟨a1,a2⟩,a3⟩,⟨⟨b1,b2⟩,b3⟩,b4⟩,c⟩,d⟩,e⟩
 ·rw[if_neg h,if_neg h]
  simp only[Bool.and_eq_true]
  constructor
  ·rintro⟨⟨⟨⟨⟨⟨a1,a2⟩,a3⟩,⟨⟨b1,b2⟩,b3⟩,b4⟩,c⟩,d⟩,⟨e,f⟩,g⟩
   exact⟨⟨a1,a2,a3,b1,b2,b3,b4⟩,d,c,e,f,g⟩
  ·rintro⟨⟨a1,a2,a3,b1,b2,b3,b4⟩,d,c,e,f,g⟩
   exact⟨⟨⟨⟨⟨⟨a1,a2⟩,a3⟩,⟨⟨b1,b2⟩,b3⟩,b4⟩,c⟩,d⟩,⟨e,f⟩,g⟩
set_option maxRecDepth 100000 in
set_option maxHeartbeats 8000000 in
theorem rlayer18_ (l:Ly) (v0 v1 v2 v3 v4 v5 v6 v7 v8 pm vw vh vp vc vd vda vf vt:Value) (H:AH) (h:LyV H l v0 v1 v2 v3 v4 v5 v6 v7 v8 pm) (hs:ShV H l.shape vw vh vp vc vd vda vf vt) (hlm:LyM l) :
  SemCall Tryz.prog 32 [.agg (lyVs l v0 v1 v2 v3 v4 v5 v6 v7 v8 pm vw vh vp vc vd vda vf vt).toArray] H (.bool (layerB l)) H []:=by
 refine pure_of ?_ rfl
 obtain⟨ma,me,fm⟩:=h.mask.form
 obtain⟨ra,re,fr⟩:=h.remap.form
 subst fm fr
 obtain⟨Q,hQ⟩:∃ Q,layerB l=Q:=⟨_,rfl⟩
 rw[hQ]
 rw[layerB_R] at hQ
 have o:Old H (H++[(⟨lyVs l v0 v1 v2 v3 v4 v5 v6 v7 (.slice ra l.remap.length re) (.slice ma l.mask.2.length me) vw vh vp vc vd vda vf vt,0,true⟩:Blk)]):=Old.app' _ _
 have hKl:H.length≤(H++[(⟨lyVs l v0 v1 v2 v3 v4 v5 v6 v7 (.slice ra l.remap.length re) (.slice ma l.mask.2.length me) vw vh vp vc vd vda vf vt,0,true⟩:Blk)]).length:=by simp
 have g1:(H++[(⟨lyVs l v0 v1 v2 v3 v4 v5 v6 v7 (.slice ra l.remap.length re) (.slice ma l.mask.2.length me) vw vh vp vc vd vda vf vt,0,true⟩:Blk)])[H.length]?=some ⟨lyVs l v0 v1 v2 v3 v4 v5 v6 v7 (.slice ra l.remap.length re) (.slice ma l.mask.2.length me) vw vh vp vc vd vda vf vt,0,true⟩:=by rw[hget_app0];rfl
 refine XCal.of hm Tryz.func32 rfl (fun xs w=>Tryz.call32 xs w) Tryz.ntmps32 Tryz.results32 rfl ?_
 refine wcode_cut (fun T K D=>D=[]∧K=H++[⟨lyVs l v0 v1 v2 v3 v4 v5 v6 v7 (.slice ra l.remap.length re) (.slice ma l.mask.2.length me) vw vh vp vc vd vda vf vt,0,true⟩]∧T 1=ap H.length 0 0) ?_ ?_
 ·(refine sg trivial ?_;try exact⟨⟩)
 generalize H++[(⟨lyVs l v0 v1 v2 v3 v4 v5 v6 v7 (.slice ra l.remap.length re) (.slice ma l.mask.2.length me) vw vh vp vc vd vda vf vt,0,true⟩:Blk)]=K at *
 rintro T K' D ⟨rfl,rfl,t1⟩
 refine wcode_cut (fun T K D=>D=[]∧K=K'∧T 1=ap H.length 0 0∧(l.keys.all keysB&&(maskB l.mask&&(if l.kind=1 then bareB l.shape else (l.comp==0)&&(decide ((l.remap.length:Int)=0)&&shapeB l.shape))))=Q) ?_ ?_
 ·generalize (l.keys.all keysB&&(maskB l.mask&&(if l.kind=1 then bareB l.shape else (l.comp==0)&&(decide ((l.remap.length:Int)=0)&&shapeB l.shape))))=R at *
  unfold layA at hQ
  have k1:=fun H=>rtick18_ l.in_ H
  have k2:=fun H=>rtick18_ l.out H
  have k3:=fun H=>rtick18_ l.start H
  generalize tickB l.in_=p1 at *
  generalize tickB l.out=p2 at *
  generalize tickB l.start=p3 at *
  have m1:decide (l.matte<0) = !decide (0≤l.matte):=by
   by_cases e:0≤l.matte
   ·rw[dt e,df (show ¬ l.matte<0 by omega)];rfl
   ·rw[df e,dt (show l.matte<0 by omega)];rfl
  have m2:decide (2<l.matte) = !decide (l.matte≤2):=by
   by_cases e:l.matte≤2
   ·rw[dt e,df (show ¬ 2<l.matte by omega)];rfl
   ·rw[df e,dt (show 2<l.matte by omega)];rfl
  have m3:decide (l.out≤l.in_) = !decide (l.in_<l.out):=by
   by_cases e:l.in_<l.out
   ·rw[dt e,df (show ¬ l.out≤l.in_ by omega)];rfl
   ·rw[df e,dt (show l.out≤l.in_ by omega)];rfl
  rcases or_tri l.kind with ⟨r,r'⟩|⟨r,r2,r'⟩|⟨r,r2,r'⟩
  case' inr.inr=>
   simp only[r',Bool.false_and] at hQ
   subst hQ
   simp only[go_sem,Nat.reduceEqDiff,Nat.reduceAdd,Nat.reduceSub,Nat.reduceMul,Nat.reduceLT,Nat.reduceLeDiff,Int.reducePow,Int.reduceBEq,Int.reduceBNe,Int.reduceDiv,Int.reduceMod,Int.reduceEq,Int.reduceLT,Int.reduceLE,Int.reduceAdd,Int.reduceSub,Int.reduceMul,Int.reduceNeg,Int.reduceToNat,Int.reduceTDiv,Int.reduceTMod,↓reduceIte,t1,g1,bne,r,r2]
   done
  case' inl=>have r2:=r
  all_goals
   simp only[r',Bool.true_and] at hQ
   cases h2:decide (0≤l.matte) with
   | false=>
    simp only[h2,Bool.true_and,Bool.false_and] at hQ
    try subst hQ
    simp only[go_sem,Nat.reduceEqDiff,Nat.reduceAdd,Nat.reduceSub,Nat.reduceMul,Nat.reduceLT,Nat.reduceLeDiff,Int.reducePow,Int.reduceBEq,Int.reduceBNe,Int.reduceDiv,Int.reduceMod,Int.reduceEq,Int.reduceLT,Int.reduceLE,Int.reduceAdd,Int.reduceSub,Int.reduceMul,Int.reduceNeg,Int.reduceToNat,Int.reduceTDiv,Int.reduceTMod,↓reduceIte,t1,g1,bne,r,r2,m1,m2,m3,h2]
    repeat ((first|refine(k1 _).x ?_|refine(k2 _).x ?_|refine(k3 _).x ?_|refine drawnF ?_ (by decide +kernel));simp only[go_sem,Nat.reduceEqDiff,Nat.reduceAdd,Nat.reduceSub,Nat.reduceMul,Nat.reduceLT,Nat.reduceLeDiff,Int.reducePow,Int.reduceBEq,Int.reduceBNe,Int.reduceDiv,Int.reduceMod,Int.reduceEq,Int.reduceLT,Int.reduceLE,Int.reduceAdd,Int.reduceSub,Int.reduceMul,Int.reduceNeg,Int.reduceToNat,Int.reduceTDiv,Int.reduceTMod,↓reduceIte,t1,g1,bne,r,r2,m1,m2,m3,h2])
   | true=>
    cases h3:decide (l.matte≤2) with
    | false=>
     simp only[h2,h3,Bool.true_and,Bool.false_and] at hQ
     try subst hQ
     simp only[go_sem,Nat.reduceEqDiff,Nat.reduceAdd,Nat.reduceSub,Nat.reduceMul,Nat.reduceLT,Nat.reduceLeDiff,Int.reducePow,Int.reduceBEq,Int.reduceBNe,Int.reduceDiv,Int.reduceMod,Int.reduceEq,Int.reduceLT,Int.reduceLE,Int.reduceAdd,Int.reduceSub,Int.reduceMul,Int.reduceNeg,Int.reduceToNat,Int.reduceTDiv,Int.reduceTMod,↓reduceIte,t1,g1,bne,r,r2,m1,m2,m3,h2,h3]
     repeat ((first|refine(k1 _).x ?_|refine(k2 _).x ?_|refine(k3 _).x ?_|refine drawnF ?_ (by decide +kernel));simp only[go_sem,Nat.reduceEqDiff,Nat.reduceAdd,Nat.reduceSub,Nat.reduceMul,Nat.reduceLT,Nat.reduceLeDiff,Int.reducePow,Int.reduceBEq,Int.reduceBNe,Int.reduceDiv,Int.reduceMod,Int.reduceEq,Int.reduceLT,Int.reduceLE,Int.reduceAdd,Int.reduceSub,Int.reduceMul,Int.reduceNeg,Int.reduceToNat,Int.reduceTDiv,Int.reduceTMod,↓reduceIte,t1,g1,bne,r,r2,m1,m2,m3,h2,h3])
    | true=>
     cases h4:p1 with
     | false=>
      simp only[h2,h3,h4,Bool.true_and,Bool.false_and] at hQ
      try subst hQ
      simp only[go_sem,Nat.reduceEqDiff,Nat.reduceAdd,Nat.reduceSub,Nat.reduceMul,Nat.reduceLT,Nat.reduceLeDiff,Int.reducePow,Int.reduceBEq,Int.reduceBNe,Int.reduceDiv,Int.reduceMod,Int.reduceEq,Int.reduceLT,Int.reduceLE,Int.reduceAdd,Int.reduceSub,Int.reduceMul,Int.reduceNeg,Int.reduceToNat,Int.reduceTDiv,Int.reduceTMod,↓reduceIte,t1,g1,bne,r,r2,m1,m2,m3,h2,h3,h4]
      repeat ((first|refine(k1 _).x ?_|refine(k2 _).x ?_|refine(k3 _).x ?_|refine drawnF ?_ (by decide +kernel));simp only[go_sem,Nat.reduceEqDiff,Nat.reduceAdd,Nat.reduceSub,Nat.reduceMul,Nat.reduceLT,Nat.reduceLeDiff,Int.reducePow,Int.reduceBEq,Int.reduceBNe,Int.reduceDiv,Int.reduceMod,Int.reduceEq,Int.reduceLT,Int.reduceLE,Int.reduceAdd,Int.reduceSub,Int.reduceMul,Int.reduceNeg,Int.reduceToNat,Int.reduceTDiv,Int.reduceTMod,↓reduceIte,t1,g1,bne,r,r2,m1,m2,m3,h2,h3,h4])
     | true=>
      cases h5:p2 with
      | false=>
       simp only[h2,h3,h4,h5,Bool.true_and,Bool.false_and] at hQ
       try subst hQ
       simp only[go_sem,Nat.reduceEqDiff,Nat.reduceAdd,Nat.reduceSub,Nat.reduceMul,Nat.reduceLT,Nat.reduceLeDiff,Int.reducePow,Int.reduceBEq,Int.reduceBNe,Int.reduceDiv,Int.reduceMod,Int.reduceEq,Int.reduceLT,Int.reduceLE,Int.reduceAdd,Int.reduceSub,Int.reduceMul,Int.reduceNeg,Int.reduceToNat,Int.reduceTDiv,Int.reduceTMod,↓reduceIte,t1,g1,bne,r,r2,m1,m2,m3,h2,h3,h4,h5]
       repeat ((first|refine(k1 _).x ?_|refine(k2 _).x ?_|refine(k3 _).x ?_|refine drawnF ?_ (by decide +kernel));simp only[go_sem,Nat.reduceEqDiff,Nat.reduceAdd,Nat.reduceSub,Nat.reduceMul,Nat.reduceLT,Nat.reduceLeDiff,Int.reducePow,Int.reduceBEq,Int.reduceBNe,Int.reduceDiv,Int.reduceMod,Int.reduceEq,Int.reduceLT,Int.reduceLE,Int.reduceAdd,Int.reduceSub,Int.reduceMul,Int.reduceNeg,Int.reduceToNat,Int.reduceTDiv,Int.reduceTMod,↓reduceIte,t1,g1,bne,r,r2,m1,m2,m3,h2,h3,h4,h5])
      | true=>
       cases h6:p3 with
       | false=>
        simp only[h2,h3,h4,h5,h6,Bool.true_and,Bool.false_and] at hQ
        try subst hQ
        simp only[go_sem,Nat.reduceEqDiff,Nat.reduceAdd,Nat.reduceSub,Nat.reduceMul,Nat.reduceLT,Nat.reduceLeDiff,Int.reducePow,Int.reduceBEq,Int.reduceBNe,Int.reduceDiv,Int.reduceMod,Int.reduceEq,Int.reduceLT,Int.reduceLE,Int.reduceAdd,Int.reduceSub,Int.reduceMul,Int.reduceNeg,Int.reduceToNat,Int.reduceTDiv,Int.reduceTMod,↓reduceIte,t1,g1,bne,r,r2,m1,m2,m3,h2,h3,h4,h5,h6]
        repeat ((first|refine(k1 _).x ?_|refine(k2 _).x ?_|refine(k3 _).x ?_|refine drawnF ?_ (by decide +kernel));simp only[go_sem,Nat.reduceEqDiff,Nat.reduceAdd,Nat.reduceSub,Nat.reduceMul,Nat.reduceLT,Nat.reduceLeDiff,Int.reducePow,Int.reduceBEq,Int.reduceBNe,Int.reduceDiv,Int.reduceMod,Int.reduceEq,Int.reduceLT,Int.reduceLE,Int.reduceAdd,Int.reduceSub,Int.reduceMul,Int.reduceNeg,Int.reduceToNat,Int.reduceTDiv,Int.reduceTMod,↓reduceIte,t1,g1,bne,r,r2,m1,m2,m3,h2,h3,h4,h5,h6])
       | true=>
        cases h7:decide (l.in_<l.out) with
        | false=>
         simp only[h2,h3,h4,h5,h6,h7,Bool.true_and,Bool.false_and] at hQ
         try subst hQ
         simp only[go_sem,Nat.reduceEqDiff,Nat.reduceAdd,Nat.reduceSub,Nat.reduceMul,Nat.reduceLT,Nat.reduceLeDiff,Int.reducePow,Int.reduceBEq,Int.reduceBNe,Int.reduceDiv,Int.reduceMod,Int.reduceEq,Int.reduceLT,Int.reduceLE,Int.reduceAdd,Int.reduceSub,Int.reduceMul,Int.reduceNeg,Int.reduceToNat,Int.reduceTDiv,Int.reduceTMod,↓reduceIte,t1,g1,bne,r,r2,m1,m2,m3,h2,h3,h4,h5,h6,h7]
         repeat ((first|refine(k1 _).x ?_|refine(k2 _).x ?_|refine(k3 _).x ?_|refine drawnF ?_ (by decide +kernel));simp only[go_sem,Nat.reduceEqDiff,Nat.reduceAdd,Nat.reduceSub,Nat.reduceMul,Nat.reduceLT,Nat.reduceLeDiff,Int.reducePow,Int.reduceBEq,Int.reduceBNe,Int.reduceDiv,Int.reduceMod,Int.reduceEq,Int.reduceLT,Int.reduceLE,Int.reduceAdd,Int.reduceSub,Int.reduceMul,Int.reduceNeg,Int.reduceToNat,Int.reduceTDiv,Int.reduceTMod,↓reduceIte,t1,g1,bne,r,r2,m1,m2,m3,h2,h3,h4,h5,h6,h7])
        | true=>
         simp only[h2,h3,h4,h5,h6,h7,Bool.true_and,Bool.false_and] at hQ
         try subst hQ
         simp only[go_sem,Nat.reduceEqDiff,Nat.reduceAdd,Nat.reduceSub,Nat.reduceMul,Nat.reduceLT,Nat.reduceLeDiff,Int.reducePow,Int.reduceBEq,Int.reduceBNe,Int.reduceDiv,Int.reduceMod,Int.reduceEq,Int.reduceLT,Int.reduceLE,Int.reduceAdd,Int.reduceSub,Int.reduceMul,Int.reduceNeg,Int.reduceToNat,Int.reduceTDiv,Int.reduceTMod,↓reduceIte,t1,g1,bne,r,r2,m1,m2,m3,h2,h3,h4,h5,h6,h7]
         repeat ((first|refine(k1 _).x ?_|refine(k2 _).x ?_|refine(k3 _).x ?_|refine drawnF ?_ (by decide +kernel));simp only[go_sem,Nat.reduceEqDiff,Nat.reduceAdd,Nat.reduceSub,Nat.reduceMul,Nat.reduceLT,Nat.reduceLeDiff,Int.reducePow,Int.reduceBEq,Int.reduceBNe,Int.reduceDiv,Int.reduceMod,Int.reduceEq,Int.reduceLT,Int.reduceLE,Int.reduceAdd,Int.reduceSub,Int.reduceMul,Int.reduceNeg,Int.reduceToNat,Int.reduceTDiv,Int.reduceTMod,↓reduceIte,t1,g1,bne,r,r2,m1,m2,m3,h2,h3,h4,h5,h6,h7])
 clear t1 hQ
 rintro T K D ⟨rfl,rfl,t1,hQ⟩
 (refine sg (et t1 g1) ?_;try exact⟨⟩)
 refine(rkeysR_ l v0 v1 v2 v3 v4 v5 v6 v7 _ _ vw vh vp vc vd vda vf vt K (h.old o)).x ?_
 rintro v H1 W1 ⟨rfl,⟨M,rfl⟩,hR⟩
 have g1:=old_get g1 M
 have o:=o.app M
 have hKl:H.length≤(K++M).length:=by rw[List.length_append];omega
 obtain⟨va,ve,hvf⟩:=hR.form
 subst hvf
 have ll:l.keys.length=9:=rfl
 rw[ll] at hR
 (refine sg ll ?_;try exact⟨⟩)
 generalize K++M=V at *
 refine keep (fun r T K' D=>D=[]∧K'=V∧∃ n:Nat,n+r=9∧T 1=ap H.length 0 0∧T 49=.slice va 9 ve∧T 50=.int .i64 9∧T 51=.int .i64 (n:Int)∧((l.keys.drop n).all keysB&&(maskB l.mask&&(if l.kind=1 then bareB l.shape else (l.comp==0)&&(decide ((l.remap.length:Int)=0)&&shapeB l.shape))))=Q) 9
  ⟨rfl,rfl,0,by omega,by(refine sg t1 ?_;try exact⟨⟩),by(refine sg trivial ?_;try exact⟨⟩),by(refine sg trivial ?_;try exact⟨⟩),by(refine sg trivial ?_;try exact⟨⟩) <;> rfl,hQ⟩ ?_
 clear hQ t1
 rintro r T K' D ⟨rfl,rfl,n,hnr,t1,t49,t50,t51,hQ⟩
 by_cases hn:n<9
 ·obtain⟨ka,hka⟩:∃ ka,l.keys[n]?=some ka:=⟨_,List.getElem?_eq_getElem (by omega)⟩
  obtain⟨b5,g5,cells5,rw5,c5,hve5,hb5,⟨kv,hc5,hkv⟩,hcl5,hle5,hld5,hgt5⟩:=hR.at hka
  subst hc5
  have hg5:=hgt5 0 (by omega)
  rw[Nat.mul_one,Nat.add_zero] at hg5
  have hg5:cells5[n]?=some kv:=hg5
  rw[hve5] at t49
  rw[ll] at t49
  rw[drop_at hka,List.all_cons] at hQ
  have n1:IntKind.i64.wrap ((n:Int)+1)=((n+1:Nat):Int):=by rw[wi (by omega) (by omega)];rfl
  have z0:(0:Int)≤(n:Int):=by omega
  have z1:(n:Int)<9:=by omega
  have z2:(n:Int)<((9:Nat):Int):=by omega
  have c1:=rkeyR_ ka kv K' hkv
  cases h1:keysB ka
  all_goals
   rw[h1] at c1
   simp only[h1,Bool.true_and,Bool.false_and] at hQ
   (refine sg (et t1 (et t49 (et t50 (et t51 (et (dt z1) (et z0 (et z1 (et z2 (et Int.toNat_natCast (et Nat.zero_add (et Nat.mul_one (et hb5 hg5)))))))))))) ?_;try exact⟨⟩)
   repeat ((first|refine(c1).x ?_|refine drawnF ?_ (by decide +kernel));(refine sg (et t1 (et t49 (et t50 (et t51 n1)))) ?_;try exact⟨⟩))
   first|(subst hQ;done)|(rw[← hQ];done)|exact⟨r - 1,by omega,n+1,by omega,hve5.symm,rfl,hQ⟩
 rw[List.drop_eq_nil_of_le (by omega)] at hQ
 have hQ:(true&&(maskB l.mask&&(if l.kind=1 then bareB l.shape else (l.comp==0)&&(decide ((l.remap.length:Int)=0)&&shapeB l.shape))))=Q:=hQ
 rw[Bool.true_and] at hQ
 have k1:=rright_ l.mask.1 l.mask.2 (.slice ma l.mask.2.length me) K' (h.mask.old o)
 have k2:=rbare_ l.shape vw vh vp vc vd vda vf vt K' (hs.old o) hlm.shape
 have k3:=rshape13_ l.shape vw vh vp vc vd vda vf vt K' (hs.old o) hlm.shape
 unfold maskB at hQ
 have hl0:decide ((0:Int)<(l.mask.2.length:Int)) = !decide ((l.mask.2.length:Int)=0):=by
  by_cases e:(l.mask.2.length:Int)=0
  ·rw[dt e,df (show ¬ (0:Int)<(l.mask.2.length:Int) by omega)];rfl
  ·rw[df e,dt (show (0:Int)<(l.mask.2.length:Int) by omega)];rfl
 have hr0:((l.remap.length:Int)==0)=decide ((l.remap.length:Int)=0):=rfl
 generalize rightB l.mask.1 l.mask.2=p1 at *
 generalize bareB l.shape=p2 at *
 generalize shapeB l.shape=p3 at *
 generalize decide ((l.mask.2.length:Int)=0)=E at *
 have tail:(p1&&(E||l.mask.1))=true→(if l.kind=1 then p2 else (l.comp==0)&&(decide ((l.remap.length:Int)=0)&&p3))=Q:=fun e=>by rw[e,Bool.true_and] at hQ;exact hQ
 cases hp1:p1
 case false=>
  rw[hp1] at k1
  rw[hp1,Bool.false_and,Bool.false_and] at hQ
  subst hQ
  (refine sg (et t1 (et t49 (et t50 (et t51 (et (df (show ¬ (n:Int)<9 by omega)) g1))))) ?_;try exact⟨⟩)
  repeat ((first|refine(k1).x ?_|refine drawnF ?_ (by decide +kernel));(refine sg (et t1 g1) ?_;try exact⟨⟩))
 rw[hp1] at k1 hQ tail
 rw[Bool.true_and] at hQ
 rw[Bool.true_and] at tail
 rcases (show (E=true)∨(E=false∧l.mask.1=true)∨(E=false∧l.mask.1=false) by cases E <;> cases l.mask.1 <;> simp) with hE|⟨hE,hE2⟩|⟨hE,hE2⟩
 case' inr.inr=>
  rw[hE,hE2] at hQ
  have hQ:false=Q:=hQ
  subst hQ
  (refine sg (et t1 (et t49 (et t50 (et t51 (et (df (show ¬ (n:Int)<9 by omega)) g1))))) ?_;try exact⟨⟩)
  repeat ((first|refine(k1).x ?_|refine drawnF ?_ (by decide +kernel));(refine sg (et t1 (et g1 (et hl0 (et hE (et hE2 Bool.not_false))))) ?_;try exact⟨⟩))
  done
 case' inl=>
  have tail:=tail (by rw[hE];rfl)
  have hE2:=True.intro
 case' inr.inl=>have tail:=tail (by rw[hE,hE2];rfl)
 all_goals
  clear hQ
  by_cases kk:l.kind=1
  ·rw[if_pos kk] at tail
   subst tail
   (refine sg (et t1 (et t49 (et t50 (et t51 (et (df (show ¬ (n:Int)<9 by omega)) g1))))) ?_;try exact⟨⟩)
   repeat ((first|refine(k1).x ?_|refine(k2).x ?_|refine drawnF ?_ (by decide +kernel));(refine sg (et t1 (et g1 (et hl0 (et hE (et hE2 (et Bool.not_false (et Bool.not_true (bt kk)))))))) ?_;try exact⟨⟩))
  ·rw[if_neg kk] at tail
   cases h1:(l.comp==0) with
   | false=>
    simp only[h1,Bool.true_and,Bool.false_and] at tail
    subst tail
    (refine sg (et t1 (et t49 (et t50 (et t51 (et (df (show ¬ (n:Int)<9 by omega)) g1))))) ?_;try exact⟨⟩)
    repeat ((first|refine(k1).x ?_|refine(k3).x ?_|refine drawnF ?_ (by decide +kernel));(refine sg (et t1 (et g1 (et hl0 (et hE (et hE2 (et Bool.not_false (et Bool.not_true (et (bf kk) (et hr0 h1))))))))) ?_;try exact⟨⟩))
   | true=>
    cases h2:decide ((l.remap.length:Int)=0) with
    | false=>
     simp only[h1,h2,Bool.true_and,Bool.false_and] at tail
     subst tail
     (refine sg (et t1 (et t49 (et t50 (et t51 (et (df (show ¬ (n:Int)<9 by omega)) g1))))) ?_;try exact⟨⟩)
     repeat ((first|refine(k1).x ?_|refine(k3).x ?_|refine drawnF ?_ (by decide +kernel));(refine sg (et t1 (et g1 (et hl0 (et hE (et hE2 (et Bool.not_false (et Bool.not_true (et (bf kk) (et hr0 (et h1 h2)))))))))) ?_;try exact⟨⟩))
    | true=>
     simp only[h1,h2,Bool.true_and,Bool.false_and] at tail
     subst tail
     (refine sg (et t1 (et t49 (et t50 (et t51 (et (df (show ¬ (n:Int)<9 by omega)) g1))))) ?_;try exact⟨⟩)
     repeat ((first|refine(k1).x ?_|refine(k3).x ?_|refine drawnF ?_ (by decide +kernel));(refine sg (et t1 (et g1 (et hl0 (et hE (et hE2 (et Bool.not_false (et Bool.not_true (et (bf kk) (et hr0 (et h1 h2)))))))))) ?_;try exact⟨⟩))
end Go.Proofs.YthhbglkokpablaaGreat
/- Documents: the walks of what the document's own answer judges: where layers stand. -/
namespace Go.Proofs.YthhbglkokpablaaGreat
open Go Go.RowKit E
attribute [local irreducible] XRun XOps XCode XCal XLoop XQ SemCall
set_option linter.unusedSimpArgs false
set_option linter.unusedVariables false
theorem ringsB_own {ps:List Int} {k:Nat} (hk:ps[k]?=some (k:Int)):ringsB ps k=true:=by
 have hl:=(List.getElem?_eq_some_iff.1 hk).1
 unfold ringsB
 rw[hk]
 obtain⟨n,hn⟩:∃ n,ps.length=n+1:=⟨ps.length - 1,by omega⟩
 rw[hn]
 show ringGo ps k (n+1) k=true
 rw[ringGo,if_pos rfl]
def treeA (c:List Ly) (k:Nat) (l:Ly):Bool:=decide (-1≤l.parent)&&(decide (l.parent<(c.length:Int))&&!(l.parent==(k:Int)))
theorem treeB_A {cs:List (List Ly)} {n k:Nat} {c:List Ly} {l:Ly} (hk:c[k]?=some l) (h:treeA c k l=false):treeB cs n k c l=false:=by
 unfold treeA at h
 unfold treeB
 by_cases e1:l.parent=(k:Int)
 ·rw[ringsB_own (by rw[parents_at hk,e1]),Bool.or_true];rfl
 ·rw[bf e1,Bool.not_false,Bool.and_true] at h
  have:(((l.parent != -1)&&!(decide (0≤l.parent)&&decide (l.parent<(c.length:Int))))=true):=by
   by_cases e2 : -1≤l.parent
   ·rw[dt e2,Bool.true_and] at h
    have e3:=of_decide_eq_false h
    rw[nf (show ¬ l.parent=-1 by omega),df e3,Bool.and_false];rfl
   ·rw[nf (show ¬ l.parent=-1 by omega),df (show ¬ 0≤l.parent by omega),Bool.false_and];rfl
  rw[this];rfl
theorem treeB_ring {cs:List (List Ly)} {n k:Nat} {c:List Ly} {l:Ly} (h:ringsB (Ly.parents c) k=true):treeB cs n k c l=false:=by
 unfold treeB
 rw[h,Bool.or_true];rfl
theorem treeB_R {cs:List (List Ly)} {n k:Nat} {c:List Ly} {l:Ly} (h:treeA c k l=true) (hr:ringsB (Ly.parents c) k=false):treeB cs n k c l=(!((l.matte != 0)&&(((k:Int)==0)||(((c[k - 1]?).elim 0 (·.matte)) != 0)))&&(!(l.kind==1)||(decide ((n:Int)<l.comp)&&decide (l.comp<(cs.length:Int))))):=by
 unfold treeA at h
 simp only[Bool.and_eq_true,decide_eq_true_eq] at h
 unfold treeB
 have e1:((l.parent != -1)&&!(decide (0≤l.parent)&&decide (l.parent<(c.length:Int))))=false:=by
  by_cases e:l.parent=-1
  ·rw[nt e];rfl
  ·rw[dt (show 0≤l.parent by omega),dt h.2.1];simp
 rw[e1,hr]
 have e2:((decide (0≤l.comp)&&decide (l.comp<(cs.length:Int)))&&decide ((n:Int)<l.comp))=(decide ((n:Int)<l.comp)&&decide (l.comp<(cs.length:Int))):=by
  by_cases e:(n:Int)<l.comp
  ·rw[dt e,dt (show 0≤l.comp by omega)];simp
  ·rw[df e];simp
 rw[e2];rfl
set_option maxRecDepth 100000 in
set_option maxHeartbeats 8000000 in
theorem rtree18_ (d:Dc) (v:Value) (n k:Nat) (c:List Ly) (l:Ly) (hn:d.comps[n]?=some c) (hk:c[k]?=some l) (H:AH) (h:Cos H v d.comps):SemCall Tryz.prog 33 [dcV d v,.int .i64 (n:Int),.int .i64 (k:Int)] H (.bool (treeB d.comps n k c l)) H []:=by
 refine pure_of ?_ rfl
 have hlen:=h.len
 have hnl:=(List.getElem?_eq_some_iff.1 hn).1
 have hkl:=(List.getElem?_eq_some_iff.1 hk).1
 obtain⟨b,g,cells,rw_,cs,hve,hb,⟨w,rfl,hw⟩,hcl,hle,hld,hgt⟩:=h.at hn
 have hwlen:=hw.len
 subst hve
 obtain⟨b2,g2,cells2,rw2,cs2,hwe,hb2,hLy,hcl2,hle2,hld2,hgt2⟩:=hw.at hk
 obtain⟨v0,v1,v2,v3,v4,v5,v6,v7,v8,pm,vw,vh,vp,vc,vd,vda,vf,vt,rfl,hLV,hSV⟩:=hLy
 subst hwe
 have hg:=hgt 0 (by omega)
 rw[Nat.mul_one,Nat.add_zero] at hg
 have hg:cells[n]?=some (sl b2 0 g2 c.length 50):=hg
 obtain⟨Q,hQ⟩:∃ Q,treeB d.comps n k c l=Q:=⟨_,rfl⟩
 rw[hQ]
 have q0:∀ n:Nat,(0:Int)≤(n:Int):=fun n=>by omega
 have q1:(n:Int)<(d.comps.length:Int):=by omega
 have q2:(k:Int)<(c.length:Int):=by omega
 have hbl:=(List.getElem?_eq_some_iff.1 hb).1
 have hbl2:=(List.getElem?_eq_some_iff.1 hb2).1
 refine XCal.of hm Tryz.func33 rfl (fun xs w=>Tryz.call33 xs w) Tryz.ntmps33 Tryz.results33 rfl ?_
 refine wcode_cut (fun T K D=>D=[]∧Old H K∧T 1=.int .i64 (n:Int)∧T 2=.int .i64 (k:Int)∧T 3=ap H.length 0 0∧K[H.length]?=some ⟨[.int .i64 d.in_,.int .i64 d.out,sl b 0 g d.comps.length 1],0,true⟩∧H.length+1≤K.length) ?_ ?_
 ·(refine sg trivial ?_;try exact⟨⟩)
  exact⟨Old.app' _ _,Nat.le_refl _⟩
 rintro T K D ⟨rfl,o,t1,t2,t3,g0,hKl⟩
 have kd:∀ n,decide (K.length+n<H.length)=false:=fun n=>df (by omega)
 have kd0:decide (K.length<H.length)=false:=df (by omega)
 have kb:=o _ _ hb
 have kb2:=o _ _ hb2
 have hK':∀ X:Blk,(K++[X])[K.length]?=some X:=fun X=>by rw[hget_app0];rfl
 have hO':∀ X:Blk,Old K (K++[X]):=fun X=>Old.app' _ _
 refine wcode_cut (fun T K2 D=>D=[]∧K=K2∧T 1=.int .i64 (n:Int)∧T 2=.int .i64 (k:Int)∧T 3=ap H.length 0 0∧T 7=sl b2 0 g2 c.length 50) ?_ ?_
 ·(refine sg (et t1 (et t2 (et t3 (et g0 (et q0 (et q1 (et Int.toNat_natCast (et Nat.zero_add (et Nat.add_zero (et Nat.mul_one (et kb hg))))))))))) ?_;try exact⟨⟩)
 clear t1 t2 t3
 rintro T K2 D ⟨rfl,rfl,t1,t2,t3,t7⟩
 refine wcode_cut (fun T K2 D=>D=[]∧K=K2∧T 1=.int .i64 (n:Int)∧T 2=.int .i64 (k:Int)∧T 3=ap H.length 0 0∧T 7=sl b2 0 g2 c.length 50∧T 8=.int .i64 (c.length:Int)) ?_ ?_
 ·(refine sg (et t1 (et t2 (et t3 t7))) ?_;try exact⟨⟩)
 clear t1 t2 t3 t7
 rintro T K2 D ⟨rfl,rfl,t1,t2,t3,t7,t8⟩
 refine wcode_cut (fun T K2 D=>D=[]∧K2=K++[⟨lyVs l v0 v1 v2 v3 v4 v5 v6 v7 v8 pm vw vh vp vc vd vda vf vt,0,true⟩]∧T 1=.int .i64 (n:Int)∧T 2=.int .i64 (k:Int)∧T 3=ap H.length 0 0∧T 7=sl b2 0 g2 c.length 50∧T 8=.int .i64 (c.length:Int)∧T 9=ap K.length 0 0) ?_ ?_
 ·(refine sg (et t1 (et t2 (et t3 (et t7 (et t8 (et q0 (et q2 (et Int.toNat_natCast (et Nat.zero_add (et kb2 (et hld2 kd0))))))))))) ?_;try exact⟨⟩)
 clear t1 t2 t3 t7 t8
 rintro T V D ⟨rfl,hV,t1,t2,t3,t7,t8,t9⟩
 have k9:=hK' ⟨lyVs l v0 v1 v2 v3 v4 v5 v6 v7 v8 pm vw vh vp vc vd vda vf vt,0,true⟩
 have o9:=hO' ⟨lyVs l v0 v1 v2 v3 v4 v5 v6 v7 v8 pm vw vh vp vc vd vda vf vt,0,true⟩
 rw[← hV] at k9 o9
 have g0:=o9 _ _ g0
 have kb:=o9 _ _ kb
 have kb2:=o9 _ _ kb2
 clear hK' hO' hV
 refine wcode_cut (fun T K2 D=>D=[]∧V=K2∧T 1=.int .i64 (n:Int)∧T 2=.int .i64 (k:Int)∧T 3=ap H.length 0 0∧T 7=sl b2 0 g2 c.length 50∧T 8=.int .i64 (c.length:Int)∧T 9=ap K.length 0 0∧treeA c k l=true) ?_ ?_
 ·cases hA:treeA c k l
  ·have:=treeB_A (cs:=d.comps) (n:=n) hk hA
   rw[this] at hQ
   subst hQ
   unfold treeA at hA
   by_cases e1:l.parent < -1
   ·(refine sg (et t1 (et t2 (et t3 (et t7 (et t8 (et t9 (et k9 (dt e1)))))))) ?_;try exact⟨⟩)
   ·rw[dt (show -1≤l.parent by omega),Bool.true_and] at hA
    by_cases e2:(c.length:Int)≤l.parent
    ·(refine sg (et t1 (et t2 (et t3 (et t7 (et t8 (et t9 (et k9 (et (df e1) (dt e2))))))))) ?_;try exact⟨⟩)
    ·rw[dt (show l.parent<(c.length:Int) by omega),Bool.true_and] at hA
     have e3:l.parent=(k:Int):=by simpa using hA
     (refine sg (et t1 (et t2 (et t3 (et t7 (et t8 (et t9 (et k9 (et (df e1) (et (df e2) (bt e3)))))))))) ?_;try exact⟨⟩)
  ·unfold treeA at hA
   simp only[Bool.and_eq_true,decide_eq_true_eq,Bool.not_eq_true',beq_eq_false_iff_ne,ne_eq] at hA
   obtain⟨e1,e2,e3⟩:=hA
   (refine sg (et t1 (et t2 (et t3 (et t7 (et t8 (et t9 (et k9 (et (df (show ¬ l.parent < -1 by omega)) (et (df (show ¬ (c.length:Int)≤l.parent by omega)) (bf e3)))))))))) ?_;try exact⟨⟩)
 clear t1 t2 t3 t7 t8 t9
 rintro T K2 D ⟨rfl,rfl,t1,t2,t3,t7,t8,t9,hA⟩
 have hrB:ringsB (Ly.parents c) k=ringGo (Ly.parents c) k c.length l.parent:=by unfold ringsB;rw[parents_at hk,parents_len];rfl
 refine wcode_cut (fun T K2 D=>D=[]∧V=K2∧T 1=.int .i64 (n:Int)∧T 2=.int .i64 (k:Int)∧T 3=ap H.length 0 0∧T 7=sl b2 0 g2 c.length 50∧T 8=.int .i64 (c.length:Int)∧T 9=ap K.length 0 0∧T 10=.int .i64 (k:Int)) ?_ ?_
 ·(refine sg (et t1 (et t2 (et t3 (et t7 (et t8 t9))))) ?_;try exact⟨⟩)
 clear t1 t2 t3 t7 t8 t9
 rintro T K2 D ⟨rfl,rfl,t1,t2,t3,t7,t8,t9,t10⟩
 refine wcode_cut (fun T K2 D=>D=[]∧V=K2∧T 1=.int .i64 (n:Int)∧T 2=.int .i64 (k:Int)∧T 3=ap H.length 0 0∧T 7=sl b2 0 g2 c.length 50∧T 8=.int .i64 (c.length:Int)∧T 9=ap K.length 0 0∧ringsB (Ly.parents c) k=false) ?_ ?_
 ·(refine sg (et t1 (et t2 (et t3 (et t7 (et t8 (et t9 t10)))))) ?_;try exact⟨⟩)
  refine keep (fun r T K2 D=>D=[]∧V=K2∧T 1=.int .i64 (n:Int)∧T 2=.int .i64 (k:Int)∧T 3=ap H.length 0 0∧T 7=sl b2 0 g2 c.length 50∧T 8=.int .i64 (c.length:Int)∧T 9=ap K.length 0 0∧∃ (i m:Nat) (y:Ly),i+r=c.length∧c[m]?=some y∧T 10=.int .i64 (m:Int)∧T 11=.int .i64 (i:Int)∧ringsB (Ly.parents c) k=ringGo (Ly.parents c) k r y.parent) c.length
   ⟨rfl,rfl,by(refine sg t1 ?_;try exact⟨⟩),by(refine sg t2 ?_;try exact⟨⟩),by(refine sg t3 ?_;try exact⟨⟩),by(refine sg t7 ?_;try exact⟨⟩),by(refine sg t8 ?_;try exact⟨⟩),by(refine sg t9 ?_;try exact⟨⟩),0,k,l,by omega,hk,by(refine sg t10 ?_;try exact⟨⟩),by(refine sg trivial ?_;try exact⟨⟩) <;> rfl,hrB⟩ ?_
  clear t1 t2 t3 t7 t8 t9 t10
  rintro r T K2 D ⟨rfl,rfl,t1,t2,t3,t7,t8,t9,i,m,y,hir,hmy,t10,t11,hr⟩
  by_cases hi:i<c.length
  ·obtain⟨r',rfl⟩:∃ r',r=r'+1:=⟨r - 1,by omega⟩
   have hml:=(List.getElem?_eq_some_iff.1 hmy).1
   obtain⟨b',g',cells',rw',hve',hb',hcp',_⟩:=lys_cell hw hmy
   cases hve'
   rw[hb2] at hb'
   cases hb'
   have q3:(m:Int)<(c.length:Int):=by omega
   have w1:IntKind.i64.wrap ((i:Int)+1)=((i+1:Nat):Int):=by rw[wi (by omega) (by omega)];rfl
   rw[ringGo,parents_len] at hr
   by_cases a1:y.parent<0
   ·rw[if_neg (by omega),if_neg (by omega)] at hr
    (refine sg (et t1 (et t2 (et t3 (et t7 (et t8 (et t9 (et t10 (et t11 (et (dt (show (i:Int)<(c.length:Int) by omega)) (et q0 (et q3 (et Int.toNat_natCast (et Nat.zero_add (et kb2 (et hcp' (et (dt a1) (show ((0:Nat)==1)=false from rfl))))))))))))))))) ?_;try exact⟨⟩)
    exact hr
   ·by_cases a2:(c.length:Int)≤y.parent
    ·rw[if_neg (by omega),if_neg (by omega)] at hr
     (refine sg (et t1 (et t2 (et t3 (et t7 (et t8 (et t9 (et t10 (et t11 (et (dt (show (i:Int)<(c.length:Int) by omega)) (et q0 (et q3 (et Int.toNat_natCast (et Nat.zero_add (et kb2 (et hcp' (et (df a1) (et (dt a2) (show ((0:Nat)==1)=false from rfl)))))))))))))))))) ?_;try exact⟨⟩)
     exact hr
    ·by_cases a3:y.parent=(k:Int)
     ·rw[if_pos a3] at hr
      rw[treeB_ring hr] at hQ
      subst hQ
      (refine sg (et t1 (et t2 (et t3 (et t7 (et t8 (et t9 (et t10 (et t11 (et (dt (show (i:Int)<(c.length:Int) by omega)) (et q0 (et q3 (et Int.toNat_natCast (et Nat.zero_add (et kb2 (et hcp' (et (df a1) (et (df a2) (bt a3)))))))))))))))))) ?_;try exact⟨⟩)
     ·rw[if_neg a3,if_pos (by omega)] at hr
      obtain⟨m',hm'⟩:∃ m':Nat,y.parent=(m':Int):=⟨y.parent.toNat,by omega⟩
      obtain⟨y',hy'⟩:∃ y',c[m']?=some y':=⟨_,List.getElem?_eq_getElem (by omega)⟩
      rw[hm',Int.toNat_natCast,parents_at hy'] at hr
      (refine sg (et t1 (et t2 (et t3 (et t7 (et t8 (et t9 (et t10 (et t11 (et (dt (show (i:Int)<(c.length:Int) by omega)) (et q0 (et q3 (et Int.toNat_natCast (et Nat.zero_add (et kb2 (et hcp' (et (df a1) (et (df a2) (et (bf a3) w1)))))))))))))))))) ?_;try exact⟨⟩)
      exact⟨r',by omega,i+1,m',y',by omega,hy',by rw[hm'],rfl,hr⟩
  ·have hr0:r=0:=by omega
   subst hr0
   (refine sg (et t1 (et t2 (et t3 (et t7 (et t8 (et t9 (et t10 (et t11 (df (show ¬ (i:Int)<(c.length:Int) by omega)))))))))) ?_;try exact⟨⟩)
   exact hr
 clear t1 t2 t3 t7 t8 t9 t10
 rintro T K2 D ⟨rfl,rfl,t1,t2,t3,t7,t8,t9,hR⟩
 rw[treeB_R hA hR] at hQ
 refine wcode_cut (fun T K2 D=>D=[]∧V=K2∧T 1=.int .i64 (n:Int)∧T 2=.int .i64 (k:Int)∧T 3=ap H.length 0 0∧T 9=ap K.length 0 0∧(!(l.kind==1)||(decide ((n:Int)<l.comp)&&decide (l.comp<(d.comps.length:Int))))=Q) ?_ ?_
 ·generalize (!(l.kind==1)||(decide ((n:Int)<l.comp)&&decide (l.comp<(d.comps.length:Int))))=R at *
  by_cases m0:l.matte=0
  ·rw[nt m0,Bool.false_and,Bool.not_false,Bool.true_and] at hQ
   (refine sg (et t1 (et t2 (et t3 (et t7 (et t8 (et t9 (et k9 (et (nt m0) hQ)))))))) ?_;try exact⟨⟩)
  ·rw[nf m0,Bool.true_and] at hQ
   by_cases k0:k=0
   ·rw[bt (show (k:Int)=0 by omega),Bool.true_or,Bool.not_true,Bool.false_and] at hQ
    subst hQ
    (refine sg (et t1 (et t2 (et t3 (et t7 (et t8 (et t9 (et k9 (et (nf m0) (bt (show (k:Int)=0 by omega)))))))))) ?_;try exact⟨⟩)
   ·obtain⟨y,hy⟩:∃ y,c[k - 1]?=some y:=⟨_,List.getElem?_eq_getElem (by omega)⟩
    obtain⟨b',g',cells',rw',hve',hb',_,hcm⟩:=lys_cell hw hy
    cases hve'
    rw[hb2] at hb'
    cases hb'
    rw[bf (show ¬ (k:Int)=0 by omega),Bool.false_or,hy] at hQ
    have wm:IntKind.i64.wrap ((k:Int) - 1)=((k - 1:Nat):Int):=by rw[wi (by omega) (by omega)];omega
    have q3:((k - 1:Nat):Int)<(c.length:Int):=by omega
    have hQ:(!(y.matte != 0)&&R)=Q:=hQ
    cases hy0:(y.matte != 0)
    all_goals
     rw[hy0] at hQ
     simp only[Bool.not_true,Bool.not_false,Bool.true_and,Bool.false_and] at hQ
     try subst hQ
     (refine sg (et t1 (et t2 (et t3 (et t7 (et t8 (et t9 (et k9 (et (nf m0) (et (bf (show ¬ (k:Int)=0 by omega)) (et wm (et q0 (et q3 (et Int.toNat_natCast (et Nat.zero_add (et kb2 (et hcm hy0)))))))))))))))) ?_;try exact⟨⟩)
 clear t1 t2 t3 t7 t8 t9 hQ
 rintro T K2 D ⟨rfl,rfl,t1,t2,t3,t9,hQ⟩
 by_cases kk:l.kind=1
 ·rw[bt kk,Bool.not_true,Bool.false_or] at hQ
  cases h1:decide ((n:Int)<l.comp) with
  | false=>
   simp only[h1,Bool.true_and,Bool.false_and] at hQ
   subst hQ
   (refine sg (et t1 (et t2 (et t3 (et t9 (et k9 (et g0 (et (nt kk) h1))))))) ?_;try exact⟨⟩)
  | true=>
   cases h2:decide (l.comp<(d.comps.length:Int)) with
   | false=>
    simp only[h1,h2,Bool.true_and,Bool.false_and] at hQ
    subst hQ
    (refine sg (et t1 (et t2 (et t3 (et t9 (et k9 (et g0 (et (nt kk) (et h1 h2)))))))) ?_;try exact⟨⟩)
   | true=>
    simp only[h1,h2,Bool.true_and,Bool.false_and] at hQ
    subst hQ
    (refine sg (et t1 (et t2 (et t3 (et t9 (et k9 (et g0 (et (nt kk) (et h1 h2)))))))) ?_;try exact⟨⟩)
 ·rw[bf kk] at hQ
  have hQ:true=Q:=by rw[← hQ];rfl
  subst hQ
  (refine sg (et t1 (et t2 (et t3 (et t9 (et k9 (et g0 (nf kk))))))) ?_;try exact⟨⟩)
end Go.Proofs.YthhbglkokpablaaGreat
/- Documents: the walks of what the document's own answer counts. -/
namespace Go.Proofs.YthhbglkokpablaaGreat
open Go Go.RowKit E
attribute [local irreducible] XRun XOps XCode XCal XLoop XQ SemCall
set_option linter.unusedSimpArgs false
set_option linter.unusedVariables false
/-- Where the two rows of numbers are that are reckoned. -/
structure SzK (H K:AH) (dc:List Value) (c1 c2:List Int):Prop where
 old:Old H K
 len:H.length+3≤K.length
 doc:K[H.length]?=some ⟨dc,0,true⟩
 a:K[H.length+1]?=some ⟨intC c1,0,true⟩
 b:K[H.length+2]?=some ⟨intC c2,0,true⟩
theorem SzK.app {H K:AH} {dc:List Value} {c1 c2:List Int} (h:SzK H K dc c1 c2) (L:AH):SzK H (K++L) dc c1 c2:=
 ⟨h.old.app L,by have:=h.len;rw[List.length_append];omega,old_get h.doc L,old_get h.a L,old_get h.b L⟩
theorem SzK.setA {H K:AH} {dc:List Value} {c1 c2:List Int} (h:SzK H K dc c1 c2) (e:List Int):SzK H (K.set (H.length+1) ⟨intC e,0,true⟩) dc e c2:=by
 have hl:=h.len
 refine⟨fun c k hk=>?_,by rw[List.length_set];exact hl,by rw[List.getElem?_set_ne (by omega)];exact h.doc,List.getElem?_set_self (by omega),by rw[List.getElem?_set_ne (by omega)];exact h.b⟩
 have:=(List.getElem?_eq_some_iff.1 hk).1
 rw[List.getElem?_set_ne (by omega)];exact h.old _ _ hk
theorem SzK.setB {H K:AH} {dc:List Value} {c1 c2:List Int} (h:SzK H K dc c1 c2) (e:List Int):SzK H (K.set (H.length+2) ⟨intC e,0,true⟩) dc c1 e:=by
 have hl:=h.len
 refine⟨fun c k hk=>?_,by rw[List.length_set];exact hl,by rw[List.getElem?_set_ne (by omega)];exact h.doc,by rw[List.getElem?_set_ne (by omega)];exact h.a,List.getElem?_set_self (by omega)⟩
 have:=(List.getElem?_eq_some_iff.1 hk).1
 rw[List.getElem?_set_ne (by omega)];exact h.old _ _ hk
theorem set_own {α:Type} {l:List α} {i:Nat} {x:α} (h:l[i]?=some x):l.set i x=l:=by
 obtain⟨hi,rfl⟩:=List.getElem?_eq_some_iff.1 h
 exact List.set_getElem_self hi
set_option maxRecDepth 100000 in
set_option maxHeartbeats 8000000 in
theorem rsizes_ (d:Dc) (v:Value) (H:AH) (h:Cos H v d.comps) (hN:d.comps.length≤1000) :
  Cal Tryz.prog 64 [dcV d v] H fun v' H' W=>W=[]∧(∃ L,H'=H++L)∧∃ b1 b2,v'=.tuple #[sl b1 0 0 d.comps.length 1,sl b2 0 0 d.comps.length 1]∧H'[b1]?=some ⟨intC (cntGo nodF 0 0 d.comps),0,true⟩∧H'[b2]?=some ⟨intC (cntGo depF 1 0 d.comps),0,true⟩:=by
 refine adds_of ?_
 obtain⟨va,ve,hv⟩:=h.form
 subst hv
 have w0:IntKind.i64.wrap ((d.comps.length:Int) - 1)=(d.comps.length:Int) - 1:=wi (by omega) (by omega)
 have kdH:∀ n,decide (H.length+n<H.length)=false:=fun n=>df (by omega)
 have kdH0:decide (H.length<H.length)=false:=df (by omega)
 refine XCal.of hm Tryz.func64 rfl (fun xs w=>Tryz.call64 xs w) Tryz.ntmps64 Tryz.results64 rfl ?_
 (refine sg (et (damkI d.comps.length hN) w0) ?_;try exact⟨⟩)
 first|refine drawnF ?_ (by decide +kernel)|refine drawnU [] (by decide +kernel) ?_
 (refine sg (et (damkI d.comps.length hN) (et w0 (et kdH kdH0))) ?_;try exact⟨⟩)
 refine keep (fun r T K D=>D=[]∧r≤d.comps.length∧∃ c1 c2:List Int,c1.length=d.comps.length∧c2.length=d.comps.length∧c1.drop r=cntGo nodF 0 r (d.comps.drop r)∧c2.drop r=cntGo depF 1 r (d.comps.drop r)∧(∀ j,j<r→c1[j]?=some 0∧c2[j]?=some 0)∧SzK H K [.int .i64 d.in_,.int .i64 d.out,.slice va d.comps.length ve] c1 c2∧T 1=ap H.length 0 0∧T 4=sl (H.length+1) 0 0 d.comps.length 1∧T 5=sl (H.length+2) 0 0 d.comps.length 1∧T 6=.int .i64 ((r:Int) - 1)) d.comps.length
  ⟨by(refine sg (et kdH kdH0) ?_;try exact⟨⟩),Nat.le_refl _,List.replicate d.comps.length 0,List.replicate d.comps.length 0,by simp,by simp,by rw[List.drop_eq_nil_of_le (by simp),List.drop_eq_nil_of_le (by omega)];rfl,by rw[List.drop_eq_nil_of_le (by simp),List.drop_eq_nil_of_le (by omega)];rfl,(fun j hj=>⟨by simp[List.getElem?_replicate,hj],by simp[List.getElem?_replicate,hj]⟩),⟨Old.app' _ _,by simp,by rw[hget_app0];rfl,by rw[hget_app];rfl,by rw[hget_app];rfl⟩,by(refine sg trivial ?_;try exact⟨⟩),by(refine sg trivial ?_;try exact⟨⟩),by(refine sg trivial ?_;try exact⟨⟩),by(refine sg trivial ?_;try exact⟨⟩) <;> rfl⟩ ?_
 rintro r T K D ⟨rfl,hrl,c1,c2,hc1,hc2,hd1,hd2,hz,hS,t1,t4,t5,t6⟩
 have hSl:=hS.len
 have kd:∀ n,decide (K.length+n<H.length)=false:=fun n=>df (by omega)
 have kd0:decide (K.length<H.length)=false:=df (by omega)
 by_cases hr0:r=0
 ·subst hr0
  rw[List.drop_zero,List.drop_zero] at hd1 hd2
  subst hd1 hd2
  (refine sg (et t1 (et t4 (et t5 (et t6 (df (show ¬ (0:Int)≤((0:Nat):Int) - 1 by omega)))))) ?_;try exact⟨⟩)
  exact⟨_,_,rfl,hS.a,hS.b⟩
 obtain⟨c,rfl⟩:∃ c,r=c+1:=⟨r - 1,by omega⟩
 have e8:(((c+1:Nat):Int) - 1)=(c:Int):=by omega
 rw[e8] at t6
 obtain⟨ls,hls⟩:∃ ls,d.comps[c]?=some ls:=⟨_,List.getElem?_eq_getElem (by omega)⟩
 obtain⟨b,g,cells,rw_,cs,hve,hb,⟨w,rfl,hw⟩,hcl1,hle,hld,hgt⟩:=h.at hls
 have hwlen:=hw.len
 obtain⟨wa,we,hwf⟩:=hw.form
 subst hwf
 have kb:=hS.old _ _ hb
 have kg:=hS.doc
 rw[hve] at kg
 have hg:=hgt 0 (by omega)
 rw[Nat.mul_one,Nat.add_zero] at hg
 have hg:cells[c]?=some (.slice wa ls.length we):=hg
 have q0:∀ n:Nat,(0:Int)≤(n:Int):=fun n=>by omega
 have q1:(c:Int)<(d.comps.length:Int):=by omega
 have wc:IntKind.i64.wrap ((c:Int) - 1)=(c:Int) - 1:=wi (by omega) (by omega)
 have hrest:(d.comps.drop (c+1)).length=d.comps.length - (c+1):=List.length_drop ..
 have hb1:=cntGo_b (cb_nod d.comps.length) (d.comps.drop (c+1)) (c+1) (by omega)
 have hb2:=cntGo_b (cb_dep d.comps.length hN) (d.comps.drop (c+1)) (c+1) (by omega)
 obtain⟨z1,z2⟩:=hz c (by omega)
 (refine sg (et t1 (et t4 (et t5 (et t6 (et (dt (show (0:Int)≤(c:Int) by omega)) (et kg (et q0 (et q1 (et Int.toNat_natCast (et Nat.zero_add (et Nat.mul_one (et Nat.add_zero (et kb hg))))))))))))) ?_;try exact⟨⟩)
 refine keep (fun r' T K' D=>D=[]∧∃ (k:Nat) (n m:Int),k+r'=ls.length∧0≤n∧n≤257∧0≤m∧m≤1000∧ls.foldl (fun n l=>nodF n l (innF (cntGo nodF 0 (c+1) (d.comps.drop (c+1))) c (d.comps.drop (c+1)).length l)) 0=(ls.drop k).foldl (fun n l=>nodF n l (innF (cntGo nodF 0 (c+1) (d.comps.drop (c+1))) c (d.comps.drop (c+1)).length l)) n∧ls.foldl (fun n l=>depF n l (innF (cntGo depF 1 (c+1) (d.comps.drop (c+1))) c (d.comps.drop (c+1)).length l)) 1=(ls.drop k).foldl (fun n l=>depF n l (innF (cntGo depF 1 (c+1) (d.comps.drop (c+1))) c (d.comps.drop (c+1)).length l)) (m+1) ∧
   SzK H K' [.int .i64 d.in_,.int .i64 d.out,.slice va d.comps.length ve] (c1.set c n) (c2.set c m)∧T 1=ap H.length 0 0∧T 4=sl (H.length+1) 0 0 d.comps.length 1∧T 5=sl (H.length+2) 0 0 d.comps.length 1∧T 6=.int .i64 (c:Int)∧T 31=.slice wa ls.length we∧T 32=.int .i64 (ls.length:Int)∧T 33=.int .i64 (k:Int)) ls.length
  ⟨rfl,0,0,0,by omega,by omega,by omega,by omega,by omega,rfl,rfl,by rw[set_own z1,set_own z2];exact hS,by(refine sg t1 ?_;try exact⟨⟩),by(refine sg t4 ?_;try exact⟨⟩),by(refine sg t5 ?_;try exact⟨⟩),by(refine sg t6 ?_;try exact⟨⟩),by(refine sg trivial ?_;try exact⟨⟩),by(refine sg trivial ?_;try exact⟨⟩),by(refine sg trivial ?_;try exact⟨⟩) <;> rfl⟩ ?_
 clear t1 t4 t5 t6 kd kd0 kb kg hS hSl
 rintro r' T K' D ⟨rfl,k,n,m,hkr,n0,n1,m0,m1,hf1,hf2,hS,t1,t4,t5,t6,t31,t32,t33⟩
 have hSl:=hS.len
 have kd:∀ n,decide (K'.length+n<H.length)=false:=fun n=>df (by omega)
 have kd0:decide (K'.length<H.length)=false:=df (by omega)
 have dka:decide (H.length+1<H.length)=false:=df (by omega)
 have dkb:decide (H.length+2<H.length)=false:=df (by omega)
 have A1:∀ (J:AH) (u v:Int) b' g',ast J (some ⟨intC (c1.set c u),g',true⟩) (some [.int .i64 v]) (some 1) b' c g'=some (J.set b' ⟨intC (c1.set c v),g',true⟩,b'):=fun J u v b' g'=>by
  rw[dint_ast J (c1.set c u) (by rw[List.length_set];omega) v b' g',List.set_set]
 have B1:∀ (J:AH) (u v:Int) b' g',ast J (some ⟨intC (c2.set c u),g',true⟩) (some [.int .i64 v]) (some 1) b' c g'=some (J.set b' ⟨intC (c2.set c v),g',true⟩,b'):=fun J u v b' g'=>by
  rw[dint_ast J (c2.set c u) (by rw[List.length_set];omega) v b' g',List.set_set]
 have L2:∀ u:Int,(intC (c1.set c u))[c]?=some (.int .i64 u):=fun u=>dint_get (List.getElem?_set_self (by omega))
 have M2:∀ u:Int,(intC (c2.set c u))[c]?=some (.int .i64 u):=fun u=>dint_get (List.getElem?_set_self (by omega))
 by_cases hk:k<ls.length
 case neg=>
  rw[List.drop_eq_nil_of_le (show ls.length≤k by omega)] at hf1 hf2
  have hf1:ls.foldl (fun n l=>nodF n l (innF (cntGo nodF 0 (c+1) (d.comps.drop (c+1))) c (d.comps.drop (c+1)).length l)) 0=n:=hf1
  have hf2:ls.foldl (fun n l=>depF n l (innF (cntGo depF 1 (c+1) (d.comps.drop (c+1))) c (d.comps.drop (c+1)).length l)) 1=m+1:=hf2
  have wm:IntKind.i64.wrap (m+1)=m+1:=wi (by omega) (by omega)
  have hS2:=hS.setB (c2.set c (m+1))
  (refine sg (et t1 (et t4 (et t5 (et t6 (et t31 (et t32 (et t33 (et (df (show ¬ (k:Int)<(ls.length:Int) by omega)) (et q0 (et q1 (et Int.toNat_natCast (et Nat.zero_add (et Nat.mul_one (et hS.b (et M2 (et B1 (et wm (et dkb wc)))))))))))))))))) ?_;try exact⟨⟩)
  refine⟨c,by omega,by omega,c1.set c n,c2.set c (m+1),by simpa using hc1,by simpa using hc2,?_,?_,fun j hj=>?_,hS2,rfl⟩
  ·rw[drop_at hls,cntGo_cons,hf1,← hd1]
   refine List.ext_getElem? fun j=>?_
   rw[List.getElem?_drop]
   cases j with
   | zero=>rw[Nat.add_zero,List.getElem?_set_self (by omega)];rfl
   | succ j=>rw[List.getElem?_set_ne (by omega),List.getElem?_cons_succ,List.getElem?_drop];congr 1;omega
  ·rw[drop_at hls,cntGo_cons,hf2,← hd2]
   refine List.ext_getElem? fun j=>?_
   rw[List.getElem?_drop]
   cases j with
   | zero=>rw[Nat.add_zero,List.getElem?_set_self (by omega)];rfl
   | succ j=>rw[List.getElem?_set_ne (by omega),List.getElem?_cons_succ,List.getElem?_drop];congr 1;omega
  ·rw[List.getElem?_set_ne (by omega),List.getElem?_set_ne (by omega)];exact hz j (by omega)
 obtain⟨l,hl'⟩:∃ l,ls[k]?=some l:=⟨_,List.getElem?_eq_getElem hk⟩
 obtain⟨b2,g2,cells2,rw2,cs2,hwe,hb2',hLy,hcl2,hle2,hld2,hgt2⟩:=hw.at hl'
 obtain⟨v0,v1,v2,v3,v4,v5,v6,v7,v8,pm,vw,vh,vp,vc,vd,vda,vf,vt,rfl,hLV,hSV⟩:=hLy
 have kb2:=hS.old _ _ hb2'
 rw[drop_at hl',List.foldl_cons] at hf1 hf2
 rw[hwe] at t31
 have q2:(k:Int)<(ls.length:Int):=by omega
 have w2:IntKind.i64.wrap ((k:Int)+1)=((k+1:Nat):Int):=by rw[wi (by omega) (by omega)];rfl
 have hib1:=innF_b hb1 (by omega) c (d.comps.drop (c+1)).length l
 have hib2:=innF_b hb2 (by omega) c (d.comps.drop (c+1)).length l
 have e1:l.kind=1∧(c:Int)<l.comp∧l.comp<(d.comps.length:Int)→∃ x:Nat,l.comp=(x:Int)∧(∀ u,(c1.set c u)[x]?=some (innF (cntGo nodF 0 (c+1) (d.comps.drop (c+1))) c (d.comps.drop (c+1)).length l))∧(∀ u,(c2.set c u)[x]?=some (innF (cntGo depF 1 (c+1) (d.comps.drop (c+1))) c (d.comps.drop (c+1)).length l)):=fun ⟨x1,x2,x3⟩=>by
  obtain⟨x,hx⟩:∃ x:Nat,l.comp=(x:Int):=⟨l.comp.toNat,by omega⟩
  refine⟨x,hx,fun u=>?_,fun u=>?_⟩
  ·rw[List.getElem?_set_ne (by omega)]
   have e2:c1[x]?=(cntGo nodF 0 (c+1) (d.comps.drop (c+1)))[x - (c+1)]?:=by
    rw[← hd1,List.getElem?_drop];congr 1;omega
   have hlt:x - (c+1)<(cntGo nodF 0 (c+1) (d.comps.drop (c+1))).length:=by rw[cntGo_len,hrest];omega
   rw[e2]
   unfold innF
   rw[if_pos ⟨x1,x2,by omega⟩,show (l.comp - ((c:Int)+1)).toNat=x - (c+1) by omega,List.getElem?_eq_getElem hlt];rfl
  ·rw[List.getElem?_set_ne (by omega)]
   have e2:c2[x]?=(cntGo depF 1 (c+1) (d.comps.drop (c+1)))[x - (c+1)]?:=by
    rw[← hd2,List.getElem?_drop];congr 1;omega
   have hlt:x - (c+1)<(cntGo depF 1 (c+1) (d.comps.drop (c+1))).length:=by rw[cntGo_len,hrest];omega
   rw[e2]
   unfold innF
   rw[if_pos ⟨x1,x2,by omega⟩,show (l.comp - ((c:Int)+1)).toNat=x - (c+1) by omega,List.getElem?_eq_getElem hlt];rfl
 have e3:∀ r,¬ (l.kind=1∧(c:Int)<l.comp∧l.comp<(d.comps.length:Int))→innF r c (d.comps.drop (c+1)).length l=0:=fun r hne=>by
  unfold innF
  rw[if_neg (fun hh=>hne ⟨hh.1,hh.2.1,by omega⟩)]
 have e31:=e3 (cntGo nodF 0 (c+1) (d.comps.drop (c+1)))
 have e32:=e3 (cntGo depF 1 (c+1) (d.comps.drop (c+1)))
 clear e3
 generalize innF (cntGo nodF 0 (c+1) (d.comps.drop (c+1))) c (d.comps.drop (c+1)).length l=i1 at *
 generalize innF (cntGo depF 1 (c+1) (d.comps.drop (c+1))) c (d.comps.drop (c+1)).length l=i2 at *
 have hi2:i2≤1000:=by
  have h:i2≤((d.comps.drop (c+1)).length:Int):=hib2.2
  omega
 have hi1:i1≤257:=hib1.2
 have i10:=hib1.1
 have i20:=hib2.1
 have hV:=hS.app [⟨lyVs l v0 v1 v2 v3 v4 v5 v6 v7 v8 pm vw vh vp vc vd vda vf vt,0,true⟩]
 have k8:(K'++[(⟨lyVs l v0 v1 v2 v3 v4 v5 v6 v7 v8 pm vw vh vp vc vd vda vf vt,0,true⟩:Blk)])[K'.length]?=some ⟨lyVs l v0 v1 v2 v3 v4 v5 v6 v7 v8 pm vw vh vp vc vd vda vf vt,0,true⟩:=by rw[hget_app0];rfl
 have hVl:=hV.len
 have nk:(K'.length=H.length+1)=False:=eq_false (by omega)
 have F1:∀ X,((K'++[(⟨lyVs l v0 v1 v2 v3 v4 v5 v6 v7 v8 pm vw vh vp vc vd vda vf vt,0,true⟩:Blk)]).set (H.length+1) X)[H.length+1]?=some X:=fun X=>List.getElem?_set_self (by omega)
 have F2:∀ X,((K'++[(⟨lyVs l v0 v1 v2 v3 v4 v5 v6 v7 v8 pm vw vh vp vc vd vda vf vt,0,true⟩:Blk)]).set (H.length+1) X)[H.length+2]?=some ⟨intC (c2.set c m),0,true⟩:=fun X=>by rw[List.getElem?_set_ne (by omega)];exact hV.b
 have F3:∀ X,((K'++[(⟨lyVs l v0 v1 v2 v3 v4 v5 v6 v7 v8 pm vw vh vp vc vd vda vf vt,0,true⟩:Blk)]).set (H.length+1) X)[H.length]?=some ⟨[.int .i64 d.in_,.int .i64 d.out,.slice va d.comps.length ve],0,true⟩:=fun X=>by rw[List.getElem?_set_ne (by omega)];exact hV.doc
 have F4:∀ X,((K'++[(⟨lyVs l v0 v1 v2 v3 v4 v5 v6 v7 v8 pm vw vh vp vc vd vda vf vt,0,true⟩:Blk)]).set (H.length+1) X)[K'.length]?=some ⟨lyVs l v0 v1 v2 v3 v4 v5 v6 v7 v8 pm vw vh vp vc vd vda vf vt,0,true⟩:=fun X=>by rw[List.getElem?_set_ne (by omega)];exact k8
 have F5:∀ X Y,(((K'++[(⟨lyVs l v0 v1 v2 v3 v4 v5 v6 v7 v8 pm vw vh vp vc vd vda vf vt,0,true⟩:Blk)]).set (H.length+1) X).set (H.length+2) Y)[H.length+1]?=some X:=fun X Y=>by rw[List.getElem?_set_ne (by omega)];exact F1 X
 have ga:=hV.a
 have gb:=hV.b
 have gd:=hV.doc
 have wn1:IntKind.i64.wrap (n+1)=n+1:=wi (by omega) (by omega)
 have wn2:IntKind.i64.wrap (n+2)=n+2:=wi (by omega) (by omega)
 have wn3:IntKind.i64.wrap (n+1+i1)=n+(1+i1):=by rw[wi (by omega) (by omega)];omega
 have bnd:0≤nodF n l i1∧nodF n l i1≤257:=by
  unfold nodF mnI
  have:0≤(if l.kind=0 then n+2 else if l.kind=1 then n+(1+i1) else n):=by
   split
   ·omega
   ·split <;> omega
  split <;> omega
 by_cases x1:l.kind=1
 ·have eN:nodF n l i1=if 257<n+(1+i1) then 257 else n+(1+i1):=by unfold nodF mnI;rw[if_neg (show ¬ l.kind=0 by omega),if_pos x1]
  by_cases hin:(c:Int)<l.comp∧l.comp<(d.comps.length:Int)
  ·obtain⟨x2,x3⟩:=hin
   obtain⟨x,hx,hl1,hl2⟩:=e1 ⟨x1,x2,x3⟩
   have L3:=fun u=>dint_get (hl1 u)
   have M3:=fun u=>dint_get (hl2 u)
   have xt:l.comp.toNat=x:=by omega
   have x0:0≤l.comp:=by omega
   have eD:depF (m+1) l i2=(if m<i2 then i2 else m)+1:=by
    unfold depF mxI
    by_cases hh:m<i2
    ·rw[if_pos hh,if_pos (by omega)];omega
    ·rw[if_neg hh,if_neg (by omega)]
   have bD:0≤(if m<i2 then i2 else m)∧(if m<i2 then i2 else m)≤1000:=by split <;> omega
   rw[eD] at hf2
   rw[eN] at hf1 bnd
   (refine sg (et t1 (et t4 (et t5 (et t6 (et t31 (et t32 (et t33 (et (dt q2) (et q0 (et q2 (et Int.toNat_natCast (et Nat.zero_add (et kb2 (et hld2 (et kd (et kd0 (et k8 (et (bt x1) (et (dt x2) (et (dt x3) (et gd (et ga (et q1 (et Nat.mul_one (et L2 (et wn1 (et A1 (et dka F4)))))))))))))))))))))))))))) ?_;try exact⟨⟩)
   repeat ((first|refine drawnF ?_ (by decide +kernel));simp only[go_sem,Nat.reduceEqDiff,Nat.reduceAdd,Nat.reduceSub,Nat.reduceMul,Nat.reduceLT,Nat.reduceLeDiff,Int.reducePow,Int.reduceBEq,Int.reduceBNe,Int.reduceDiv,Int.reduceMod,Int.reduceEq,Int.reduceLT,Int.reduceLE,Int.reduceAdd,Int.reduceSub,Int.reduceMul,Int.reduceNeg,Int.reduceToNat,Int.reduceTDiv,Int.reduceTMod,↓reduceIte,t1,t4,t5,t6,t31,t32,t33,q0,q1,x0,x3,xt,Int.toNat_natCast,Nat.zero_add,Nat.mul_one,L2,L3,M2,M3,wn3,A1,B1,dka,dkb,F1,F2,F4,F5,List.set_set,w2])
   exact⟨r' - 1,by omega,k+1,_,_,by omega,bnd.1,bnd.2,bD.1,bD.2,hf1,hf2,((hV.setA _).setB _).setA _,hwe.symm,rfl⟩
  ·have z1:=e31 (fun hh=>hin hh.2)
   have z2:=e32 (fun hh=>hin hh.2)
   subst z1 z2
   have eD:depF (m+1) l 0=m+1:=by unfold depF mxI;rw[if_neg (by omega)]
   rw[eD] at hf2
   rw[eN,show n+(1+0)=n+1 by omega] at hf1 bnd
   by_cases x2:(c:Int)<l.comp
   ·have x3:¬ l.comp<(d.comps.length:Int):=fun e=>hin ⟨x2,e⟩
    simp only[go_sem,Nat.reduceEqDiff,Nat.reduceAdd,Nat.reduceSub,Nat.reduceMul,Nat.reduceLT,Nat.reduceLeDiff,Int.reducePow,Int.reduceBEq,Int.reduceBNe,Int.reduceDiv,Int.reduceMod,Int.reduceEq,Int.reduceLT,Int.reduceLE,Int.reduceAdd,Int.reduceSub,Int.reduceMul,Int.reduceNeg,Int.reduceToNat,Int.reduceTDiv,Int.reduceTMod,↓reduceIte,t1,t4,t5,t6,t31,t32,t33,dt q2,q0,q2,Int.toNat_natCast,Nat.zero_add,kb2,hld2,kd,kd0,k8,bt x1,dt x2,df x3,gd,ga,q1,Nat.mul_one,L2,wn1,A1,dka,F1,List.set_set,w2]
    exact⟨r' - 1,by omega,k+1,_,m,by omega,bnd.1,bnd.2,m0,m1,hf1,hf2,hV.setA _,hwe.symm,rfl⟩
   ·simp only[go_sem,Nat.reduceEqDiff,Nat.reduceAdd,Nat.reduceSub,Nat.reduceMul,Nat.reduceLT,Nat.reduceLeDiff,Int.reducePow,Int.reduceBEq,Int.reduceBNe,Int.reduceDiv,Int.reduceMod,Int.reduceEq,Int.reduceLT,Int.reduceLE,Int.reduceAdd,Int.reduceSub,Int.reduceMul,Int.reduceNeg,Int.reduceToNat,Int.reduceTDiv,Int.reduceTMod,↓reduceIte,t1,t4,t5,t6,t31,t32,t33,dt q2,q0,q2,Int.toNat_natCast,Nat.zero_add,kb2,hld2,kd,kd0,k8,bt x1,df x2,gd,ga,q1,Nat.mul_one,L2,wn1,A1,dka,F1,List.set_set,w2]
    exact⟨r' - 1,by omega,k+1,_,m,by omega,bnd.1,bnd.2,m0,m1,hf1,hf2,hV.setA _,hwe.symm,rfl⟩
 ·have eD:depF (m+1) l 0=m+1:=by unfold depF mxI;rw[if_neg (by omega)]
  rw[e32 (fun hh=>x1 hh.1),eD] at hf2
  by_cases y1:l.kind=0
  ·have eN:nodF n l i1=if 257<n+2 then 257 else n+2:=by unfold nodF mnI;rw[if_pos y1]
   rw[eN] at hf1 bnd
   simp only[go_sem,Nat.reduceEqDiff,Nat.reduceAdd,Nat.reduceSub,Nat.reduceMul,Nat.reduceLT,Nat.reduceLeDiff,Int.reducePow,Int.reduceBEq,Int.reduceBNe,Int.reduceDiv,Int.reduceMod,Int.reduceEq,Int.reduceLT,Int.reduceLE,Int.reduceAdd,Int.reduceSub,Int.reduceMul,Int.reduceNeg,Int.reduceToNat,Int.reduceTDiv,Int.reduceTMod,↓reduceIte,t1,t4,t5,t6,t31,t32,t33,dt q2,q0,q2,Int.toNat_natCast,Nat.zero_add,kb2,hld2,kd,kd0,k8,bf x1,bt y1,gd,ga,q1,Nat.mul_one,L2,wn2,A1,dka,F1,List.set_set,w2]
   exact⟨r' - 1,by omega,k+1,_,m,by omega,bnd.1,bnd.2,m0,m1,hf1,hf2,hV.setA _,hwe.symm,rfl⟩
  ·have eN:nodF n l i1=if 257<n then 257 else n:=by unfold nodF mnI;rw[if_neg y1,if_neg x1]
   rw[eN] at hf1 bnd
   simp only[go_sem,Nat.reduceEqDiff,Nat.reduceAdd,Nat.reduceSub,Nat.reduceMul,Nat.reduceLT,Nat.reduceLeDiff,Int.reducePow,Int.reduceBEq,Int.reduceBNe,Int.reduceDiv,Int.reduceMod,Int.reduceEq,Int.reduceLT,Int.reduceLE,Int.reduceAdd,Int.reduceSub,Int.reduceMul,Int.reduceNeg,Int.reduceToNat,Int.reduceTDiv,Int.reduceTMod,↓reduceIte,t1,t4,t5,t6,t31,t32,t33,dt q2,q0,q2,Int.toNat_natCast,Nat.zero_add,kb2,hld2,kd,kd0,k8,bf x1,bf y1,gd,ga,q1,Nat.mul_one,L2,A1,dka,F1,List.set_set,w2]
   exact⟨r' - 1,by omega,k+1,_,m,by omega,bnd.1,bnd.2,m0,m1,hf1,hf2,hV.setA _,hwe.symm,rfl⟩
theorem rnodes_ (d:Dc) (v:Value) (c:Int) (H:AH) (h:Cos H v d.comps) (hN:d.comps.length≤1000):SemCall Tryz.prog 35 [dcV d v,.int .i64 c] H (.int .i64 (nodesE d.comps c)) H []:=by
 refine pure_of ?_ rfl
 obtain⟨va,ve,hv⟩:=h.form
 subst hv
 unfold nodesE
 by_cases c0:c<0
 ·rw[df (show ¬ 0≤c by omega),Bool.false_and,if_neg (by decide)]
  refine XCal.of hm Tryz.func35 rfl (fun xs w=>Tryz.call35 xs w) Tryz.ntmps35 Tryz.results35 rfl ?_
  (refine sg (dt c0) ?_;try exact⟨⟩)
 by_cases c1:(d.comps.length:Int)≤c
 ·rw[df (show ¬ c<(d.comps.length:Int) by omega),Bool.and_false,if_neg (by decide)]
  refine XCal.of hm Tryz.func35 rfl (fun xs w=>Tryz.call35 xs w) Tryz.ntmps35 Tryz.results35 rfl ?_
  (refine sg (et (df c0) (dt c1)) ?_;try exact⟨⟩)
 obtain⟨m,rfl⟩:∃ m:Nat,c=(m:Int):=⟨c.toNat,by omega⟩
 rw[dt (show 0≤(m:Int) by omega),dt (show (m:Int)<(d.comps.length:Int) by omega),Bool.and_self,if_pos rfl]
 refine XCal.of hm Tryz.func35 rfl (fun xs w=>Tryz.call35 xs w) Tryz.ntmps35 Tryz.results35 rfl ?_
 (refine sg (et (df c0) (df c1)) ?_;try exact⟨⟩)
 refine(rsizes_ d _ _ (h.old CoE.m (Old.app' _ _)) hN).x ?_
 rintro v' H1 W1 ⟨rfl,⟨L,rfl⟩,b1,b2,rfl,hb1,hb2⟩
 obtain⟨x,hx⟩:∃ x,(cntGo nodF 0 0 d.comps)[m]?=some x:=⟨_,List.getElem?_eq_getElem (by rw[cntGo_len];omega)⟩
 rw[Int.toNat_natCast,hx]
 have hg:=dint_get hx
 (refine sg (et (show (0:Int)≤(m:Int) by omega) (et (show (m:Int)<(d.comps.length:Int) by omega) (et Int.toNat_natCast (et Nat.zero_add (et Nat.mul_one (et hb1 hg)))))) ?_;try exact⟨⟩)
 first|done|rfl
theorem rdeep_ (d:Dc) (v:Value) (c:Int) (H:AH) (h:Cos H v d.comps) (hN:d.comps.length≤1000):SemCall Tryz.prog 34 [dcV d v,.int .i64 c] H (.int .i64 (deepE d.comps c)) H []:=by
 refine pure_of ?_ rfl
 obtain⟨va,ve,hv⟩:=h.form
 subst hv
 unfold deepE
 by_cases c0:c<0
 ·rw[df (show ¬ 0≤c by omega),Bool.false_and,if_neg (by decide)]
  refine XCal.of hm Tryz.func34 rfl (fun xs w=>Tryz.call34 xs w) Tryz.ntmps34 Tryz.results34 rfl ?_
  (refine sg (dt c0) ?_;try exact⟨⟩)
 by_cases c1:(d.comps.length:Int)≤c
 ·rw[df (show ¬ c<(d.comps.length:Int) by omega),Bool.and_false,if_neg (by decide)]
  refine XCal.of hm Tryz.func34 rfl (fun xs w=>Tryz.call34 xs w) Tryz.ntmps34 Tryz.results34 rfl ?_
  (refine sg (et (df c0) (dt c1)) ?_;try exact⟨⟩)
 obtain⟨m,rfl⟩:∃ m:Nat,c=(m:Int):=⟨c.toNat,by omega⟩
 rw[dt (show 0≤(m:Int) by omega),dt (show (m:Int)<(d.comps.length:Int) by omega),Bool.and_self,if_pos rfl]
 refine XCal.of hm Tryz.func34 rfl (fun xs w=>Tryz.call34 xs w) Tryz.ntmps34 Tryz.results34 rfl ?_
 (refine sg (et (df c0) (df c1)) ?_;try exact⟨⟩)
 refine(rsizes_ d _ _ (h.old CoE.m (Old.app' _ _)) hN).x ?_
 rintro v' H1 W1 ⟨rfl,⟨L,rfl⟩,b1,b2,rfl,hb1,hb2⟩
 obtain⟨x,hx⟩:∃ x,(cntGo depF 1 0 d.comps)[m]?=some x:=⟨_,List.getElem?_eq_getElem (by rw[cntGo_len];omega)⟩
 rw[Int.toNat_natCast,hx]
 have hg:=dint_get hx
 (refine sg (et (show (0:Int)≤(m:Int) by omega) (et (show (m:Int)<(d.comps.length:Int) by omega) (et Int.toNat_natCast (et Nat.zero_add (et Nat.mul_one (et hb2 hg)))))) ?_;try exact⟨⟩)
 first|done|rfl
end Go.Proofs.YthhbglkokpablaaGreat
/- Documents: the walk of what the document's own answer judges: the whole. -/
namespace Go.Proofs.YthhbglkokpablaaGreat
open Go Go.RowKit E
attribute [local irreducible] XRun XOps XCode XCal XLoop XQ SemCall
set_option linter.unusedSimpArgs false
set_option linter.unusedVariables false
def orE (a b:Int):Int:=if ¬ a=0 then a else b
theorem orE_assoc (a b c:Int):orE (orE a b) c=orE a (orE b c):=by
 unfold orE
 by_cases h:a=0
 ·subst h;simp
 ·rw[if_pos h,if_pos h,if_pos h]
theorem orE_z (b:Int):orE 0 b=b:=by unfold orE;rw[if_neg (fun x=>x rfl)]
theorem orE_p {a:Int} (h:¬ a=0) (b:Int):orE a b=a:=by unfold orE;rw[if_pos h]
theorem cosE_cons (cs:List (List Ly)) (n:Nat) (c:List Ly) (t:List (List Ly)):cosE cs n (c::t)=orE (lysE cs n c 0 c) (cosE cs (n+1) t):=rfl
def DcM (d:Dc):Prop:=∀ c∈d.comps,∀ l∈c,LyM l
set_option maxRecDepth 100000 in
set_option maxHeartbeats 8000000 in
theorem rright18_ (d:Dc) (v:Value) (H:AH) (h:Cos H v d.comps) (hz:DcM d):SemCall Tryz.prog 15 [dcV d v] H (.int .i64 (rightE d)) H []:=by
 refine pure_of ?_ rfl
 obtain⟨va,ve,hv⟩:=h.form
 subst hv
 obtain⟨q,hq⟩:∃ q,rightE d=q:=⟨_,rfl⟩
 rw[hq]
 unfold rightE sizeB at hq
 by_cases n1:(d.comps.length:Int)<1
 ·rw[dt n1,Bool.true_or,Bool.true_or,if_pos rfl] at hq
  subst hq
  refine XCal.of hm Tryz.func15 rfl (fun xs w=>Tryz.call15 xs w) Tryz.ntmps15 Tryz.results15 rfl ?_
  (refine sg (dt n1) ?_;try exact⟨⟩)
 by_cases n2:8<(d.comps.length:Int)
 ·rw[dt n2,Bool.or_true,Bool.true_or,if_pos rfl] at hq
  subst hq
  refine XCal.of hm Tryz.func15 rfl (fun xs w=>Tryz.call15 xs w) Tryz.ntmps15 Tryz.results15 rfl ?_
  (refine sg (et (df n1) (dt n2)) ?_;try exact⟨⟩)
 rw[df n1,df n2,Bool.false_or,Bool.false_or] at hq
 refine XCal.of hm Tryz.func15 rfl (fun xs w=>Tryz.call15 xs w) Tryz.ntmps15 Tryz.results15 rfl ?_
 (refine sg (et (df n1) (df n2)) ?_;try exact⟨⟩)
 obtain⟨R,hR⟩:∃ R,(if (!tickB d.in_||!tickB d.out||decide (d.out≤d.in_))=true then (1:Int) else if ¬ cosE d.comps 0 d.comps=0 then cosE d.comps 0 d.comps else if 4<deepE d.comps 0∨256<nodesE d.comps 0 then 24 else 0)=R:=⟨_,rfl⟩
 rw[hR] at hq
 refine keep (fun r T K D=>D=[]∧∃ i:Nat,i+r=d.comps.length∧Old H K∧H.length+1≤K.length∧K[H.length]?=some ⟨[.int .i64 d.in_,.int .i64 d.out,.slice va d.comps.length ve],0,true⟩∧T 1=ap H.length 0 0∧T 20=.slice va d.comps.length ve∧T 21=.int .i64 (d.comps.length:Int)∧T 22=.int .i64 (i:Int)∧(if ((d.comps.drop i).any fun c=>decide (16<(c.length:Int)))=true then 23 else R)=q) d.comps.length
  ⟨rfl,0,by omega,Old.app' _ _,by simp,by rw[hget_app0];rfl,by(refine sg trivial ?_;try exact⟨⟩),by(refine sg trivial ?_;try exact⟨⟩),by(refine sg trivial ?_;try exact⟨⟩),by(refine sg trivial ?_;try exact⟨⟩) <;> rfl,hq⟩ ?_
 clear hq
 rintro r T K D ⟨rfl,i,hir,o,hKl,g0,t1,t20,t21,t22,hq⟩
 have kd:∀ n,decide (K.length+n<H.length)=false:=fun n=>df (by omega)
 have kd0:decide (K.length<H.length)=false:=df (by omega)
 by_cases hi:i<d.comps.length
 ·obtain⟨c,hx⟩:∃ c,d.comps[i]?=some c:=⟨_,List.getElem?_eq_getElem hi⟩
  obtain⟨b,g,cells,rw_,cc,hve,hb,⟨lv,hc,hlv⟩,hcl,hle,hld,hgt⟩:=h.at hx
  subst hc
  obtain⟨la,le,hlf⟩:=hlv.form
  subst hlf
  have kb:=o _ _ hb
  rw[hve] at t20
  rw[drop_at hx,List.any_cons] at hq
  have i1:IntKind.i64.wrap ((i:Int)+1)=((i+1:Nat):Int):=by rw[wi (by omega) (by omega)];rfl
  have q0:(0:Int)≤(i:Int):=by omega
  have q1:(i:Int)<(d.comps.length:Int):=by omega
  by_cases m1:16<(c.length:Int)
  ·rw[dt m1,Bool.true_or,if_pos rfl] at hq
   subst hq
   (refine sg (et t1 (et t20 (et t21 (et t22 (et (dt q1) (et q0 (et q1 (et Int.toNat_natCast (et Nat.zero_add (et kb (et hld (et kd (et kd0 (dt m1)))))))))))))) ?_;try exact⟨⟩)
  ·rw[df m1,Bool.false_or] at hq
   (refine sg (et t1 (et t20 (et t21 (et t22 (et (dt q1) (et q0 (et q1 (et Int.toNat_natCast (et Nat.zero_add (et kb (et hld (et kd (et kd0 (et (df m1) i1)))))))))))))) ?_;try exact⟨⟩)
   exact⟨r - 1,by omega,i+1,by omega,o.app _,by omega,old_get g0 _,hve.symm,rfl,hq⟩
 rw[List.drop_eq_nil_of_le (by omega)] at hq
 have hq:R=q:=hq
 subst hq
 have k1:=fun H=>rtick18_ d.in_ H
 have k2:=fun H=>rtick18_ d.out H
 have m3:decide (d.out≤d.in_) = !decide (d.in_<d.out):=by
  by_cases e:d.in_<d.out
  ·rw[dt e,df (show ¬ d.out≤d.in_ by omega)];rfl
  ·rw[df e,dt (show d.out≤d.in_ by omega)];rfl
 generalize tickB d.in_=p1 at *
 generalize tickB d.out=p2 at *
 cases p1
 case false=>
  rw[Bool.not_false,Bool.true_or,Bool.true_or,if_pos rfl] at hR
  subst hR
  (refine sg (et t1 (et t20 (et t21 (et t22 (et (df (show ¬ (i:Int)<(d.comps.length:Int) by omega)) g0))))) ?_;try exact⟨⟩)
  repeat ((first|refine(k1 _).x ?_|refine drawnF ?_ (by decide +kernel));(refine sg (et t1 g0) ?_;try exact⟨⟩))
 cases p2
 case false=>
  rw[Bool.not_true,Bool.not_false,Bool.false_or,Bool.true_or,if_pos rfl] at hR
  subst hR
  (refine sg (et t1 (et t20 (et t21 (et t22 (et (df (show ¬ (i:Int)<(d.comps.length:Int) by omega)) g0))))) ?_;try exact⟨⟩)
  repeat ((first|refine(k1 _).x ?_|refine(k2 _).x ?_|refine drawnF ?_ (by decide +kernel));(refine sg (et t1 g0) ?_;try exact⟨⟩))
 by_cases m4:d.out≤d.in_
 case pos=>
  rw[dt m4,Bool.or_true,if_pos rfl] at hR
  subst hR
  (refine sg (et t1 (et t20 (et t21 (et t22 (et (df (show ¬ (i:Int)<(d.comps.length:Int) by omega)) g0))))) ?_;try exact⟨⟩)
  repeat ((first|refine(k1 _).x ?_|refine(k2 _).x ?_|refine drawnF ?_ (by decide +kernel));(refine sg (et t1 (et g0 (dt m4))) ?_;try exact⟨⟩))
 rw[Bool.not_true,df m4,Bool.or_self,Bool.or_self,if_neg (by decide)] at hR
 have hR:orE (cosE d.comps 0 d.comps) (if 4<deepE d.comps 0∨256<nodesE d.comps 0 then 24 else 0)=R:=hR
 (refine sg (et t1 (et t20 (et t21 (et t22 (et (df (show ¬ (i:Int)<(d.comps.length:Int) by omega)) g0))))) ?_;try exact⟨⟩)
 repeat ((first|refine(k1 _).x ?_|refine(k2 _).x ?_|refine drawnF ?_ (by decide +kernel));(refine sg (et t1 (et g0 (df m4))) ?_;try exact⟨⟩))
 obtain⟨Z,hZ⟩:∃ Z,(if 4<deepE d.comps 0∨256<nodesE d.comps 0 then (24:Int) else 0)=Z:=⟨_,rfl⟩
 rw[hZ] at hR
 refine keep (fun r T K D=>D=[]∧∃ i:Nat,i+r=d.comps.length∧Old H K∧H.length+1≤K.length∧K[H.length]?=some ⟨[.int .i64 d.in_,.int .i64 d.out,.slice va d.comps.length ve],0,true⟩∧T 1=ap H.length 0 0∧T 49=.slice va d.comps.length ve∧T 50=.int .i64 (d.comps.length:Int)∧T 51=.int .i64 (i:Int)∧orE (cosE d.comps i (d.comps.drop i)) Z=R) d.comps.length
  ⟨rfl,0,by omega,o,by omega,g0,by(refine sg t1 ?_;try exact⟨⟩),by(refine sg trivial ?_;try exact⟨⟩),by(refine sg trivial ?_;try exact⟨⟩),by(refine sg trivial ?_;try exact⟨⟩) <;> rfl,hR⟩ ?_
 clear hR t1 t20 t21 t22 g0 kd kd0 o hKl hir hi i
 rintro r T K D ⟨rfl,i,hir,o,hKl,g0,t1,t49,t50,t51,hR⟩
 have kd:∀ n,decide (K.length+n<H.length)=false:=fun n=>df (by omega)
 have kd0:decide (K.length<H.length)=false:=df (by omega)
 by_cases hi:i<d.comps.length
 case neg=>
  rw[List.drop_eq_nil_of_le (by omega)] at hR
  have hR:orE 0 Z=R:=hR
  rw[orE_z] at hR
  subst hR
  have c1:=rdeep_ d _ 0 K (h.old CoE.m o) (by omega)
  have c2:=rnodes_ d _ 0 K (h.old CoE.m o) (by omega)
  by_cases e1:4<deepE d.comps 0
  ·rw[if_pos (.inl e1)] at hZ
   subst hZ
   (refine sg (et t1 (et t49 (et t50 (et t51 (et (df (show ¬ (i:Int)<(d.comps.length:Int) by omega)) g0))))) ?_;try exact⟨⟩)
   repeat ((first|refine(c1).x ?_|refine(c2).x ?_|refine drawnF ?_ (by decide +kernel));(refine sg (et t1 (et g0 (dt e1))) ?_;try exact⟨⟩))
  ·by_cases e2:256<nodesE d.comps 0
   ·rw[if_pos (.inr e2)] at hZ
    subst hZ
    (refine sg (et t1 (et t49 (et t50 (et t51 (et (df (show ¬ (i:Int)<(d.comps.length:Int) by omega)) g0))))) ?_;try exact⟨⟩)
    repeat ((first|refine(c1).x ?_|refine(c2).x ?_|refine drawnF ?_ (by decide +kernel));(refine sg (et t1 (et g0 (et (df e1) (dt e2)))) ?_;try exact⟨⟩))
   ·rw[if_neg (by omega)] at hZ
    subst hZ
    (refine sg (et t1 (et t49 (et t50 (et t51 (et (df (show ¬ (i:Int)<(d.comps.length:Int) by omega)) g0))))) ?_;try exact⟨⟩)
    repeat ((first|refine(c1).x ?_|refine(c2).x ?_|refine drawnF ?_ (by decide +kernel));(refine sg (et t1 (et g0 (et (df e1) (df e2)))) ?_;try exact⟨⟩))
 obtain⟨c,hx⟩:∃ c,d.comps[i]?=some c:=⟨_,List.getElem?_eq_getElem hi⟩
 obtain⟨b,g,cells,rw_,cc,hve,hb,⟨lv,hc,hlv⟩,hcl,hle,hld,hgt⟩:=h.at hx
 subst hc
 obtain⟨la,le,hlf⟩:=hlv.form
 subst hlf
 have hcl':=hlv.len
 have kb:=o _ _ hb
 have t49':=t49
 rw[hve] at t49
 rw[drop_at hx,cosE_cons,orE_assoc] at hR
 have i1:IntKind.i64.wrap ((i:Int)+1)=((i+1:Nat):Int):=by rw[wi (by omega) (by omega)];rfl
 have q0:(0:Int)≤(i:Int):=by omega
 have q1:(i:Int)<(d.comps.length:Int):=by omega
 obtain⟨Y,hY⟩:∃ Y,orE (cosE d.comps (i+1) (d.comps.drop (i+1))) Z=Y:=⟨_,rfl⟩
 rw[hY] at hR
 (refine sg (et t1 (et t49 (et t50 (et t51 (et (dt q1) (et q0 (et q1 (et Int.toNat_natCast (et Nat.zero_add (et kb (et hld (et kd kd0)))))))))))) ?_;try exact⟨⟩)
 refine keep (fun r2 T K' D=>D=[]∧∃ k:Nat,k+r2=c.length∧Old H K'∧H.length+1≤K'.length∧K'[H.length]?=some ⟨[.int .i64 d.in_,.int .i64 d.out,.slice va d.comps.length ve],0,true⟩∧T 1=ap H.length 0 0∧T 49=.slice va d.comps.length ve∧T 50=.int .i64 (d.comps.length:Int)∧T 51=.int .i64 (i:Int)∧T 5=.int .i64 (i:Int)∧T 57=.slice la c.length le∧T 58=.int .i64 (c.length:Int)∧T 59=.int .i64 (k:Int)∧orE (lysE d.comps i c k (c.drop k)) Y=R) c.length
  ⟨rfl,0,by omega,o.app _,by rw[List.length_append];omega,old_get g0 _,by(refine sg t1 ?_;try exact⟨⟩),by(refine sg t49' ?_;try exact⟨⟩),by(refine sg t50 ?_;try exact⟨⟩),by(refine sg t51 ?_;try exact⟨⟩),by(refine sg trivial ?_;try exact⟨⟩),by(refine sg trivial ?_;try exact⟨⟩),by(refine sg trivial ?_;try exact⟨⟩),by(refine sg trivial ?_;try exact⟨⟩) <;> rfl,hR⟩ ?_
 clear hR t1 t49 t49' t50 t51 g0 kd kd0 kb
 rintro r2 T K' D ⟨rfl,k,hkr,o2,hKl2,g0,t1,t49,t50,t51,t5,t57,t58,t59,hR⟩
 have kd:∀ n,decide (K'.length+n<H.length)=false:=fun n=>df (by omega)
 have kd0:decide (K'.length<H.length)=false:=df (by omega)
 by_cases hk:k<c.length
 case neg=>
  rw[List.drop_eq_nil_of_le (by omega)] at hR
  have hR:orE 0 Y=R:=hR
  rw[orE_z] at hR
  subst hR
  (refine sg (et t1 (et t49 (et t50 (et t51 (et t5 (et t57 (et t58 (et t59 (et (df (show ¬ (k:Int)<(c.length:Int) by omega)) i1))))))))) ?_;try exact⟨⟩)
  exact⟨r - 1,by omega,i+1,by omega,o2,by omega,g0,rfl,hY⟩
 obtain⟨l,hkl⟩:∃ l,c[k]?=some l:=⟨_,List.getElem?_eq_getElem hk⟩
 obtain⟨b2,g2,cells2,rw2,c2,hve2,hb2,⟨v0,v1,v2,v3,v4,v5,v6,v7,v8,pm,vw,vh,vp,vc,vd,vda,vf,vt,rfl,hLV,hSV⟩,hcl2,hle2,hld2,hgt2⟩:=hlv.at hkl
 have kb2:=o2 _ _ hb2
 have hml:=hz c (List.mem_of_getElem? hx) l (List.mem_of_getElem? hkl)
 rw[hve2] at t57
 rw[drop_at hkl] at hR
 simp only[lysE] at hR
 have j1:IntKind.i64.wrap ((k:Int)+1)=((k+1:Nat):Int):=by rw[wi (by omega) (by omega)];rfl
 have p0:(0:Int)≤(k:Int):=by omega
 have p1:(k:Int)<(c.length:Int):=by omega
 have k1:=rlayer18_ l v0 v1 v2 v3 v4 v5 v6 v7 v8 pm vw vh vp vc vd vda vf vt _ (hLV.old (o2.app [⟨lyVs l v0 v1 v2 v3 v4 v5 v6 v7 v8 pm vw vh vp vc vd vda vf vt,0,true⟩])) (hSV.old (o2.app _)) hml
 have k2:=rtree18_ d (.slice va d.comps.length ve) i k c l hx hkl _ (h.old CoE.m (o2.app [⟨lyVs l v0 v1 v2 v3 v4 v5 v6 v7 v8 pm vw vh vp vc vd vda vf vt,0,true⟩]))
 have g8:=old_get g0 [⟨lyVs l v0 v1 v2 v3 v4 v5 v6 v7 v8 pm vw vh vp vc vd vda vf vt,0,true⟩]
 cases h1:layerB l
 case false=>
  rw[h1,if_pos rfl,orE_p (by decide)] at hR
  subst hR
  rw[h1] at k1
  (refine sg (et t1 (et t49 (et t50 (et t51 (et t5 (et t57 (et t58 (et t59 (et (dt p1) (et p0 (et p1 (et Int.toNat_natCast (et Nat.zero_add (et kb2 (et hld2 (et kd kd0)))))))))))))))) ?_;try exact⟨⟩)
  repeat ((first|refine(k1).x ?_|refine drawnF ?_ (by decide +kernel));(refine sg (et t1 (et t5 (et g8 (et kd kd0)))) ?_;try exact⟨⟩))
 rw[h1,if_neg (by decide)] at hR
 rw[h1] at k1
 cases h2:treeB d.comps i k c l
 case false=>
  rw[h2,if_pos rfl,orE_p (by decide)] at hR
  subst hR
  rw[h2] at k2
  (refine sg (et t1 (et t49 (et t50 (et t51 (et t5 (et t57 (et t58 (et t59 (et (dt p1) (et p0 (et p1 (et Int.toNat_natCast (et Nat.zero_add (et kb2 (et hld2 (et kd kd0)))))))))))))))) ?_;try exact⟨⟩)
  repeat ((first|refine(k1).x ?_|refine(k2).x ?_|refine drawnF ?_ (by decide +kernel));(refine sg (et t1 (et t5 (et g8 (et kd kd0)))) ?_;try exact⟨⟩))
 rw[h2,if_neg (by decide)] at hR
 rw[h2] at k2
 (refine sg (et t1 (et t49 (et t50 (et t51 (et t5 (et t57 (et t58 (et t59 (et (dt p1) (et p0 (et p1 (et Int.toNat_natCast (et Nat.zero_add (et kb2 (et hld2 (et kd kd0)))))))))))))))) ?_;try exact⟨⟩)
 repeat ((first|refine(k1).x ?_|refine(k2).x ?_|refine drawnF ?_ (by decide +kernel));(refine sg (et t1 (et t49 (et t50 (et t51 (et t5 (et t57 (et t58 (et t59 (et g8 (et kd (et kd0 j1))))))))))) ?_;try exact⟨⟩))
 exact⟨r2 - 1,by omega,k+1,by omega,o2.app _,by omega,hve2.symm,rfl,hR⟩
end Go.Proofs.YthhbglkokpablaaGreat
