/- Merged texts: DocJ. -/
import Derived.Test.YthhbglkokpablaaGreatV9
/- Documents of a tape: the walk of shapes. -/
namespace Go.Proofs.YthhbglkokpablaaGreat
open Go Go.RowKit E
theorem xcut2 {P:Program} {sz n0:Nat} {T:Env} {H:AH} {D:List Nat} {Q:KC} {a b c:Code} (R:Env→AH→List Nat→Prop) (h1:@XCode P sz n0 (.seq a b) T H D ⟨fun o T' H' D'=>o=.norm∧R T' H' D'⟩) (h2:∀ T' H' D',R T' H' D'→XCode P sz n0 c T' H' D'):XCode P sz n0 (.seq a (.seq b c)) T H D:=by
 show WCode P sz n0 a T H D _
 refine WCode.mono (show WCode P sz n0 a T H D _ from h1) fun o T' H' D' hw=>?_
 cases o with
 | norm=>
  show WCode P sz n0 b T' H' D' _
  refine WCode.mono (show WCode P sz n0 b T' H' D' _ from hw) fun o T2 H2 D2 ⟨ho,r⟩=>?_
  subst ho
  exact h2 T2 H2 D2 r
 | _=>exact absurd hw.1 (by simp)
attribute [local irreducible] XRun XOps XCode XCal XLoop XQ SemCall
set_option linter.unusedSimpArgs false
set_option linter.unusedVariables false
/-- What is right of a shape, part by part. -/
structure ShB (s:Sh):Prop where
 form:formB s=true
 rule:((s.rule==0)||(s.rule==1))=true
 paint:paintB s.paint=true
 colors:cksB s.colors=true
 width:keysB s.width=true
 frm:keysB s.frm=true
 to:keysB s.to=true
 cap:((s.cap==0)||(s.cap==1))=true
 dash:dashB s.dash=true
theorem ShB.all {s:Sh} (h:ShB s):shapeB s=true:=by
 unfold shapeB;rw[h.form,h.rule,h.paint,h.colors,h.width,h.frm,h.to,h.cap,h.dash];rfl
/-- A shape on its way, in the block behind H. -/
structure ShK (H K:AH) (tb g:Nat) (lv:Value) (ls:List Int) (s:Sh) (vw vh vp vc vd vda vf vt:Value):Prop where
 tp:TpS H K tb g lv ls
 len:H.length+2≤K.length
 z:K[H.length]?=some ⟨shC sh00 (.slice none 0 0) (.slice none 0 0) (.slice none 0 0) (.slice none 0 0) (.slice none 0 0) (.slice none 0 0) (.slice none 0 0) (.slice none 0 0),0,true⟩
 c:K[H.length+1]?=some ⟨shC s vw vh vp vc vd vda vf vt,0,true⟩
 r:Dep (H.length+2) K fun J=>ShV J s vw vh vp vc vd vda vf vt
 mp:s.paths=[]→vp=.slice none 0 0
 md:s.dash=[]→vda=.slice none 0 0
section
variable {H K J:AH} {tb g:Nat} {lv:Value} {ls:List Int} {s:Sh} {vw vh vp vc vd vda vf vt:Value}
theorem ShK.trans (h:ShK H K tb g lv ls s vw vh vp vc vd vda vf vt) (t:TpS K J tb g lv ls):ShK H J tb g lv ls s vw vh vp vc vd vda vf vt:=by
 have hl:=h.tp.lt
 exact⟨h.tp.trans t,Nat.le_trans h.len t.len,t.old _ _ (by omega) h.z,t.old _ _ (by omega) h.c,h.r.olx t.old (by omega),h.mp,h.md⟩
theorem ShK.step (h:ShK H K tb g lv ls s vw vh vp vc vd vda vf vt) {a:Int} (h1:0≤a) (h2:a≤ls.length):ShK H (K.set tb (tblk lv g a)) tb g lv ls s vw vh vp vc vd vda vf vt:=
 h.trans ((TpS.refl h.tp.tape).step h1 h2)
theorem ShK.app (h:ShK H K tb g lv ls s vw vh vp vc vd vda vf vt) (L:AH):ShK H (K++L) tb g lv ls s vw vh vp vc vd vda vf vt:=
 h.trans ((TpS.refl h.tp.tape).app L)
theorem ShK.put (h:ShK H K tb g lv ls s vw vh vp vc vd vda vf vt) {s':Sh} {vw' vh' vp' vc' vd' vda' vf' vt':Value} (r:Dep (H.length+2) K fun J=>ShV J s' vw' vh' vp' vc' vd' vda' vf' vt') (mp:s'.paths=[]→vp'=.slice none 0 0) (md:s'.dash=[]→vda'=.slice none 0 0):ShK H (K.set (H.length+1) ⟨shC s' vw' vh' vp' vc' vd' vda' vf' vt',0,true⟩) tb g lv ls s' vw' vh' vp' vc' vd' vda' vf' vt':=by
 have hl:=h.len
 exact⟨h.tp.bo (by omega) (Olx.set0 _ _ _) (by simp),by simpa using hl,by rw[List.getElem?_set_ne (by omega)];exact h.z,List.getElem?_set_self (by omega),r.olx (Olx.set0 _ _ _) (by omega),mp,md⟩
end
/-- A shape on its way in a loop that began at K0. -/
structure ShL (H K0 K:AH) (tb g:Nat) (lv:Value) (ls:List Int) (s:Sh) (vw vh vp vc vd vda vf vt:Value):Prop where
 tp:TpS H K tb g lv ls
 len:H.length+2≤K0.length
 len0:K0.length≤K.length
 z:K[H.length]?=some ⟨shC sh00 (.slice none 0 0) (.slice none 0 0) (.slice none 0 0) (.slice none 0 0) (.slice none 0 0) (.slice none 0 0) (.slice none 0 0) (.slice none 0 0),0,true⟩
 c:K[H.length+1]?=some ⟨shC s vw vh vp vc vd vda vf vt,0,true⟩
 rel:∀ (c:Nat) (k:Blk),H.length+2≤c→K0[c]?=some k→K[c]?=some k
section
variable {H K0 K J:AH} {tb g:Nat} {lv:Value} {ls:List Int} {s:Sh} {vw vh vp vc vd vda vf vt:Value}
theorem ShK.loop (h:ShK H K tb g lv ls s vw vh vp vc vd vda vf vt):ShL H K K tb g lv ls s vw vh vp vc vd vda vf vt:=⟨h.tp,h.len,Nat.le_refl _,h.z,h.c,fun _ _ _ e=>e⟩
theorem ShL.trans (h:ShL H K0 K tb g lv ls s vw vh vp vc vd vda vf vt) (t:TpS K J tb g lv ls):ShL H K0 J tb g lv ls s vw vh vp vc vd vda vf vt:=by
 have hl:=h.tp.lt
 exact⟨h.tp.trans t,h.len,Nat.le_trans h.len0 t.len,t.old _ _ (by omega) h.z,t.old _ _ (by omega) h.c,fun c k hc e=>t.old c k (by omega) (h.rel c k hc e)⟩
theorem ShL.step (h:ShL H K0 K tb g lv ls s vw vh vp vc vd vda vf vt) {a:Int} (h1:0≤a) (h2:a≤ls.length):ShL H K0 (K.set tb (tblk lv g a)) tb g lv ls s vw vh vp vc vd vda vf vt:=
 h.trans ((TpS.refl h.tp.tape).step h1 h2)
theorem ShL.app (h:ShL H K0 K tb g lv ls s vw vh vp vc vd vda vf vt) (L:AH):ShL H K0 (K++L) tb g lv ls s vw vh vp vc vd vda vf vt:=
 h.trans ((TpS.refl h.tp.tape).app L)
theorem ShL.bo (h:ShL H K0 K tb g lv ls s vw vh vp vc vd vda vf vt) {bo:Nat} (hb:K0.length≤bo) (o:Olx bo K J) (hl:K.length≤J.length):ShL H K0 J tb g lv ls s vw vh vp vc vd vda vf vt:=by
 have h9:=h.len
 exact⟨h.tp.bo (by omega) o hl,h.len,Nat.le_trans h.len0 hl,o _ _ (by omega) h.z,o _ _ (by omega) h.c,fun c k hc e=>o c k (by have:=(List.getElem?_eq_some_iff.1 e).1;omega) (h.rel c k hc e)⟩
theorem ShL.put (h:ShL H K0 K tb g lv ls s vw vh vp vc vd vda vf vt) (s':Sh) (vw' vh' vp' vc' vd' vda' vf' vt':Value):ShL H K0 (K.set (H.length+1) ⟨shC s' vw' vh' vp' vc' vd' vda' vf' vt',0,true⟩) tb g lv ls s' vw' vh' vp' vc' vd' vda' vf' vt':=by
 have h9:=h.len
 have h8:=h.len0
 exact⟨h.tp.bo (by omega) (Olx.set0 _ _ _) (by simp),h.len,by simpa using h8,by rw[List.getElem?_set_ne (by omega)];exact h.z,List.getElem?_set_self (by omega),fun c k hc e=>by rw[List.getElem?_set_ne (by omega)];exact h.rel c k hc e⟩
end
/-- A shape's walk between two steps. -/
structure ShW (H:AH) (tb g:Nat) (lv:Value) (ls:List Int) (s:Sh) (T:Env) (K:AH) (D:List Nat):Prop where
 d:SameW D [tb]
 t0:T 0=ap tb 0 g
 t2:T 2=ap H.length 0 0
 t3:T 3=ap (H.length+1) 0 0
 k:∃ vw vh vp vc vd vda vf vt,ShK H K tb g lv ls s vw vh vp vc vd vda vf vt
theorem snocF {D W:List Nat} {tb n:Nat} (h:SameW D [tb]) (h':SameW W [tb]) (hn:tb<n):SameW (D++W.filter (fun b=>decide (b<n))) [tb]:=fun b=>by
 rw[List.mem_append,h b,List.mem_filter,h' b]
 constructor
 ·rintro(h|⟨h,_⟩) <;> exact h
 ·exact .inl
theorem KW.k60 {l:List Ky} (h:KW l 3) {n:Int} (hn : -67108864≤n∧n≤67108864):keysB (l++[⟨60,n,0,ez00⟩])=true:=by
 unfold keysB
 rw[keysGo_snoc (tick_sm (by simp)) rfl (near_sm hn) h.go (by exact h.low) (.inl rfl),dt (show ((l++[(⟨60,n,0,ez00⟩:Ky)]).length:Int)≤32 by rw[List.length_append];have:=h.len;show ((l.length+1:Nat):Int)≤32;omega)];rfl
theorem form_not {F N:Int} {lw lh:List Ky} (F0:0≤F) (F1:F<4) (hN:(F=2∧2≤N∧N≤16)∨(¬ F=2∧N=0)) (hF:¬ F=3) (hw:keysB lw=true) (hh:keysB lh=true):formB { sh00 with form:=F,n:=N,w:=lw,h:=lh }=true:=by
 unfold formB
 simp only
 rw[if_neg (by omega),if_neg (by omega),if_neg hF,hw,hh];rfl
theorem two_ {x:Int} (h0:0≤x) (h1:x<2):((x==0)||(x==1))=true:=by
 obtain rfl|rfl:x=0∨x=1:=by omega
 ·rfl
 ·rfl
theorem cks2 {a b:Int} {ca cb:C4} (h0 : -1073741824≤a) (h1:a<b) (h2:b≤1073741824):cksB [⟨a,ca,1,ez00⟩,⟨b,cb,0,ez00⟩]=true:=by
 unfold cksB
 simp only[cksGo,kstB]
 rw[tick_sm ⟨h0,by omega⟩,tick_sm ⟨by omega,h2⟩,dt h1];rfl
theorem dash_snoc {l:List Int} (h:dashB l=true) {n:Int} (h0:65536≤n) (h1:n≤67108864) (hl:l.length<8):dashB (l++[n])=true:=by
  unfold dashB at h ⊢
  simp only [Bool.and_eq_true, List.all_append, List.all_cons, List.all_nil] at h ⊢
  exact ⟨dt (by rw [List.length_append]; show ((l.length + 1 : Nat) : Int) ≤ 8; omega), h.2, ⟨dt h0, dt h1⟩, trivial⟩
theorem pksGo_snoc {z : PL} {k : Pk} (ht : tickB k.t = true) (hh : howB k.how k.e = true) (hn : ¬ k.p.2.length = 0) (hr : rightB k.p.1 k.p.2 = true) (hz : fitsB k.p z = true) : ∀ {l : List Pk} {f : Bool} {a : Int}, pksGo z f a l = true → (∀ x ∈ l, x.t < k.t) → (f = true ∨ a < k.t) → pksGo z f a (l ++ [k]) = true
  | [], f, a, _, _, h => by
    show (kstB f a k.t k.how k.e && !(decide ((k.p.2.length : Int) = 0)) && rightB k.p.1 k.p.2 && fitsB k.p z && true) = true
    unfold kstB
    have : (f || decide (a < k.t)) = true := by rcases h with h | h; · rw [h]; rfl
                                                · rw [dt h, Bool.or_true]
    rw [ht, hh, hr, hz, this, df (show ¬ (k.p.2.length : Int) = 0 by omega)]; rfl
  | x :: t, f, a, h, hl, _ => by
    rw[List.cons_append,pksGo]
    simp only[pksGo,Bool.and_eq_true] at h
    rw[h.1.1.1.1,h.1.1.1.2,h.1.1.2,h.1.2,pksGo_snoc ht hh hn hr hz h.2 (fun y hy=>hl y (by simp[hy])) (.inr (hl x (by simp)))];rfl
/-- Rows of paths that a tape makes. -/
structure PkW (n:Nat) (cl:Bool) (l:List Pk):Prop where
 go:∀ z:PL,z.1=cl→z.2.length=3*n+1→pksGo z true 0 l=true
 all:∀ x∈l,x.p.1=cl∧x.p.2.length=3*n+1
theorem PkW.nil (n:Nat) (cl:Bool):PkW n cl []:=⟨fun _ _ _=>rfl,fun _ h=>by cases h⟩
theorem PkW.b {n:Nat} {cl:Bool} {l:List Pk} (h:PkW n cl l) (hl:l.length≤32):pksB l=true:=by
  unfold pksB
  rw[dt (show (l.length:Int)≤32 by omega),Bool.and_true]
  cases l with
  | nil => rfl
  | cons x t => have := h.all x (by simp); exact h.go x.p this.1 this.2
theorem PkW.snoc {n : Nat} {cl : Bool} {l : List Pk} (h : PkW n cl l) (hn : 1 ≤ n) (hn2 : n ≤ 32) {A : Int} (hA : -1073741824 ≤ A ∧ A ≤ 1073741824) {ps : List Pt} (hp : ps.length = 3 * n + 1) (hB : ∀ p ∈ ps, Bp p) {hw : Int} {e : Ez} (hh : howB hw e = true) (hlow : ∀ x ∈ l, x.t < A) : PkW n cl (l ++ [⟨A, (cl, ps), hw, e⟩]) := by
  refine ⟨fun z h1 h2 => pksGo_snoc (tick_sm hA) hh (by simp only; omega) (right_of cl hp hB hn hn2) ?_ (h.go z h1 h2) hlow (.inl rfl), fun x hx => ?_⟩
  · unfold fitsB
    simp only
    rw[h1,hp,h2,dt rfl];cases cl <;> rfl
  · rcases List.mem_append.1 hx with hx|hx
    · exact h.all x hx
    · rw[List.mem_singleton.1 hx];exact⟨rfl,hp⟩
theorem form_drawn {l:List Pk} (h:pksB l=true):formB { sh00 with form:=3,n:=0,paths:=l }=true:=by
 show (if (3:Int)<0∨(3:Int)<3 then false else if ((3:Int)=2∧((0:Int)<2∨16<(0:Int)))∨(¬ (3:Int)=2∧¬ (0:Int)=0) then false else if (3:Int)=3 then decide ((([]:List Ky).length:Int)=0)&&decide ((([]:List Ky).length:Int)=0)&&pksB l else _)=true
 rw[if_neg (by omega),if_neg (by omega),if_pos rfl,h];rfl
set_option maxHeartbeats 8000000 in
theorem kshape_ (H:AH) {tb g:Nat} {lv:Value} {ls:List Int} (h:TapeAt H tb g lv ls) :
  Cal Tryz.prog 43 [ap tb 0 g] H fun v H' W=>SameW W [tb]∧TpS H H' tb g lv ls∧∃ s vw vh vp vc vd vda vf vt,v=.agg (shC s vw vh vp vc vd vda vf vt).toArray∧Dep H.length H' (fun J=>ShV J s vw vh vp vc vd vda vf vt)∧shapeB s=true:=by
 have htb:=h.lt
 have dtb:decide (tb<H.length)=true:=dt htb
 have hne:¬ tb=H.length:=by omega
 have hne1:¬ tb=H.length+1:=by omega
 refine of_x ?_
 refine XCal.of hm Tryz.func43 rfl (fun xs w=>Tryz.call43 xs w) Tryz.ntmps43 Tryz.results43 rfl ?_
 refine xcut2 (fun T K D=>∃ F:Int,0≤F∧F<4∧ShW H tb g lv ls { sh00 with form:=F } T K D) ?_ ?_
 ·(refine sg trivial ?_;try exact⟨⟩)
  refine(next_ 4 (by omega) _ (h.app _)).x ?_
  rintro v H1 W1 ⟨⟨F,a1⟩,⟨F0,F1,a0,a2⟩,rfl,rfl,rfl⟩
  have hb:=(h.2).choose_spec.2.2
  (refine sg (et dtb (old_set hb)) ?_;try exact⟨⟩)
  refine⟨F,F0,F1,⟨fun x=>by simp,by(refine sg trivial ?_;try exact⟨⟩),by(refine sg trivial ?_;try exact⟨⟩),by(refine sg trivial ?_;try exact⟨⟩),_,_,_,_,_,_,_,_,⟨((TpS.refl h).step a0 a2).app _,by simp,?_,?_,fun J _=>⟨RowOf.none,RowOf.none,RowOf.none,RowOf.none,RowOf.none,RowOf.none,RowOf.none,RowOf.none⟩,fun _=>rfl,fun _=>rfl⟩⟩⟩
  ·rw[show H.length=(H.set tb (tblk lv g a1)).length by simp,hget_app0];rfl
  ·rw[show H.length=(H.set tb (tblk lv g a1)).length by simp,hget_app];rfl
 have kdh:decide (H.length+1<H.length)=false:=df (by omega)
 rintro T K D ⟨F,F0,F1,hs⟩
 refine xcut (fun T K D=>∃ N:Int,((F=2∧2≤N∧N≤16)∨(¬ F=2∧N=0))∧ShW H tb g lv ls { sh00 with form:=F,n:=N } T K D) ?_ ?_
 ·obtain⟨vw,vh,vp,vc,vd,vda,vf,vt,hk⟩:=hs.k
  by_cases hF:F=2
  ·(refine sg (et hs.t0 (et hs.t2 (et hs.t3 (et hk.c (bt hF))))) ?_;try exact⟨⟩)
   refine(next_ 5 (by omega) _ hk.tp.tape).x ?_
   rintro v H1 W1 ⟨⟨x,a1⟩,⟨x0,x1,a0,a2⟩,rfl,rfl,rfl⟩
   have x0:0≤x:=x0
   have x1:x<5:=x1
   have hk:=hk.step (a:=a1) a0 a2
   generalize K.set tb (tblk lv g a1)=K1 at *
   have w1:IntKind.i64.wrap (2+x)=2+x:=wi (by omega) (by omega)
   (refine sg (et hs.t0 (et hs.t2 (et hs.t3 (et hk.c (et dtb (et kdh w1)))))) ?_;try exact⟨⟩)
   exact⟨2+x,.inl ⟨hF,by omega,by omega⟩,⟨snoc hs.d,by(refine sg hs.t0 ?_;try exact⟨⟩),by(refine sg hs.t2 ?_;try exact⟨⟩),by(refine sg hs.t3 ?_;try exact⟨⟩),_,_,_,_,_,_,_,_,hk.put (s':={ sh00 with form:=F,n:=2+x }) (hk.r.map fun _ r=>⟨r.w,r.h,r.paths,r.colors,r.width,r.dash,r.frm,r.to⟩) hk.mp hk.md⟩⟩
  ·(refine sg (et hs.t0 (et hs.t2 (et hs.t3 (et hk.c (bf hF))))) ?_;try exact⟨⟩)
   exact⟨0,.inr ⟨hF,rfl⟩,⟨hs.d,by(refine sg hs.t0 ?_;try exact⟨⟩),by(refine sg hs.t2 ?_;try exact⟨⟩),by(refine sg hs.t3 ?_;try exact⟨⟩),_,_,_,_,_,_,_,_,hk⟩⟩
 clear hs
 rintro T K D ⟨N,hN,hs⟩
 refine xcut (fun T K D=>∃ s,(ShB s∧s.dash=[])∧ShW H tb g lv ls s T K D) ?_ ?_
 ·refine xcut (fun T K D=>T 22=.bool (decide (F=3))∧ShW H tb g lv ls { sh00 with form:=F,n:=N } T K D) ?_ ?_
  ·obtain⟨vw,vh,vp,vc,vd,vda,vf,vt,hk⟩:=hs.k
   by_cases hF:F=3
   ·(refine sg (et hs.t0 (et hs.t2 (et hs.t3 (et hk.c (bt hF))))) ?_;try exact⟨⟩)
    exact⟨by rw[dt hF],hs.d,by(refine sg hs.t0 ?_;try exact⟨⟩),by(refine sg hs.t2 ?_;try exact⟨⟩),by(refine sg hs.t3 ?_;try exact⟨⟩),_,_,_,_,_,_,_,_,hk⟩
   ·(refine sg (et hs.t0 (et hs.t2 (et hs.t3 (et hk.c (bf hF))))) ?_;try exact⟨⟩)
    exact⟨by rw[df hF],hs.d,by(refine sg hs.t0 ?_;try exact⟨⟩),by(refine sg hs.t2 ?_;try exact⟨⟩),by(refine sg hs.t3 ?_;try exact⟨⟩),_,_,_,_,_,_,_,_,hk⟩
  clear hs
  rintro T K D ⟨t22,hs⟩
  by_cases hF:F=3
  ·rw[dt hF] at t22
   rw[wcode_cond_t (show ev T (.tmp 22)=some (.bool true) by show some (T 22)=_;rw[t22])]
   have hN0:N=0:=by omega
   subst hF hN0
   obtain⟨vw,vh,vp,vc,vd,vda,vf,vt,hk⟩:=hs.k
   (refine sg (et hs.t0 (et hs.t2 (et hs.t3 hk.c))) ?_;try exact⟨⟩)
   refine(next_ 3 (by omega) _ hk.tp.tape).x ?_
   rintro v H1 W1 ⟨⟨x,a1⟩,⟨x0,x1,a0,a2⟩,rfl,rfl,rfl⟩
   have x0:0≤x:=x0
   have x1:x<3:=x1
   have hk:=hk.step (a:=a1) a0 a2
   generalize K.set tb (tblk lv g a1)=K1 at *
   obtain⟨n,hn1,hn2,w4⟩:∃ n:Nat,1≤n∧n≤3∧IntKind.i64.wrap (1+x)=(n:Int):=⟨(1+x).toNat,by omega,by omega,by rw[wi (by omega) (by omega)];omega⟩
   (refine sg (et hs.t0 (et hs.t2 (et hs.t3 (et hk.c (et dtb w4))))) ?_;try exact⟨⟩)
   refine(next_ 2 (by omega) _ hk.tp.tape).x ?_
   rintro v H1 W1 ⟨⟨y,b1⟩,⟨y0,y1,b0,b2⟩,rfl,rfl,rfl⟩
   have hk:=hk.step (a:=b1) b0 b2
   generalize K1.set tb (tblk lv g b1)=K2 at *
   (refine sg (et hs.t0 (et hs.t2 (et hs.t3 (et hk.c dtb)))) ?_;try exact⟨⟩)
   refine(next_ 4 (by omega) _ hk.tp.tape).x ?_
   rintro v H1 W1 ⟨⟨A0,c1⟩,⟨z0,z1,c0,c2⟩,rfl,rfl,rfl⟩
   have z0:0≤A0:=z0
   have z1:A0<4:=z1
   have hk:=hk.step (a:=c1) c0 c2
   generalize K2.set tb (tblk lv g c1)=K3 at *
   (refine sg (et hs.t0 (et hs.t2 (et hs.t3 (et hk.c dtb)))) ?_;try exact⟨⟩)
   refine(next_ 3 (by omega) _ hk.tp.tape).x ?_
   rintro v H1 W1 ⟨⟨u,d1⟩,⟨u0,u1,d0,d2⟩,rfl,rfl,rfl⟩
   have u0:0≤u:=u0
   have u1:u<3:=u1
   have hk:=hk.step (a:=d1) d0 d2
   generalize K3.set tb (tblk lv g d1)=K4 at *
   obtain⟨nq,hq,w7⟩:∃ n:Nat,n≤3∧IntKind.i64.wrap (1+u)=(n:Int):=⟨(1+u).toNat,by omega,by rw[wi (by omega) (by omega)];omega⟩
   (refine sg (et hs.t0 (et hs.t2 (et hs.t3 (et hk.c (et dtb w7))))) ?_;try exact⟨⟩)
   obtain⟨cl,hcl⟩:∃ b:Bool,(y==0)=b:=⟨_,rfl⟩
   have hk9:=hk
   have hL:=hk.loop
   refine keep (fun k T K D=>T 7=.int .i64 (k:Int)∧T 4=.int .i64 (n:Int)∧T 5=.bool cl∧SameW D [tb]∧T 0=ap tb 0 g∧T 2=ap H.length 0 0∧T 3=ap (H.length+1) 0 0∧∃ (l:List Pk) (A:Int) (vp':Value),T 6=.int .i64 A∧PkW n cl l∧l.length+k=nq∧(∀ x∈l,x.t<A)∧0≤A∧A≤3+6*(l.length:Int)∧(l=[]→vp'=.slice none 0 0)∧MkRow 8 PkE K4.length K vp' l∧ShL H K4 K tb g lv ls { sh00 with form:=3,n:=0,paths:=l } vw vh vp' vc vd vda vf vt) nq
    ⟨by(refine sg trivial ?_;try exact⟨⟩),by(refine sg trivial ?_;try exact⟨⟩),by(refine sg hcl ?_;try exact⟨⟩),snoc (snoc (snoc (snoc hs.d))),by(refine sg hs.t0 ?_;try exact⟨⟩),by(refine sg hs.t2 ?_;try exact⟨⟩),by(refine sg hs.t3 ?_;try exact⟨⟩),[],A0,vp,by(refine sg trivial ?_;try exact⟨⟩),PkW.nil _ _,by simp,(fun x hx=>by cases hx),z0,by simp;omega,fun _=>hk.mp rfl,.inl ⟨rfl,hk.mp rfl⟩,hL⟩ ?_
   clear hs hk hL w4 w7
   rintro k T K D ⟨t7,t4,t5,hD,t0,t2,t3,l,A,vp',t6,hP,hlk,hlow,hA0,hA1,hz,hM,hL⟩
   by_cases hk0:0<k
   ·have w1:IntKind.i64.wrap ((k:Int) - 1)=((k - 1:Nat):Int):=by rw[wi (by omega) (by omega)];omega
    (refine sg (et t0 (et t2 (et t3 (et t4 (et t5 (et t6 (et t7 (dt (show (0:Int)<(k:Int) by omega))))))))) ?_;try exact⟨⟩)
    refine(path_ n cl (by omega) _ hL.tp.tape).x ?_
    rintro v H2 W2 ⟨⟨ps,e1⟩,⟨p1,p2,e0,e2⟩,rfl,rfl,rfl⟩
    have p1:ps.length=3*n+1:=p1
    have p2:∀ p∈ps,Bp p:=p2
    have hM:=hM.olt (Olx.set0 tb K (tblk lv g e1)) (by have:=hk9.tp.lt;have:=hk9.len;omega)
    have hL:=hL.step (a:=e1) e0 e2
    have hl1:K.length=(K.set tb (tblk lv g e1)).length:=by simp
    rw[hl1]
    generalize K.set tb (tblk lv g e1)=K5 at *
    clear hl1
    have kd:∀ n,decide (K5.length+n<H.length)=false:=fun n=>df (by have:=hL.len;have:=hL.len0;omega)
    have kd0:decide (K5.length<H.length)=false:=df (by have:=hL.len;have:=hL.len0;omega)
    (refine sg (et t0 (et t2 (et t3 (et t4 (et t5 (et t6 (et t7 (et dtb (et kd kd0))))))))) ?_;try exact⟨⟩)
    refine(khow_ _ (hL.tp.tape.app _)).x ?_
    rintro v H1 W1 ⟨⟨⟨hw,e⟩,d1⟩,⟨hh,d0,d2⟩,rfl,rfl,rfl⟩
    have hh:howB hw e=true:=hh
    rw[old_set (hL.tp.tape.2).choose_spec.2.2]
    have hM:=hM.olt (Olx.set0 tb K5 (tblk lv g d1)) (by have:=hk9.tp.lt;have:=hk9.len;omega)
    have hL:=hL.step (a:=d1) d0 d2
    have hl2:K5.length=(K5.set tb (tblk lv g d1)).length:=by simp
    rw[hl2] at kd kd0 ⊢
    generalize K5.set tb (tblk lv g d1)=K6 at *
    have hD3:SameW (D++[tb]++[tb]++[tb]) [tb]:=snoc (snoc (snoc hD))
    have hP':=hP.snoc hn1 (by omega) (A:=A) (by omega) p1 p2 hh hlow
    have w2:IntKind.i64.wrap (A+1)=A+1:=wi (by omega) (by omega)
    rcases hM with ⟨rfl,rfl⟩|⟨bo,go,cs,hbo,rfl,hb,hcs,hel⟩
    ·(refine sg (et t0 (et t2 (et t3 (et t4 (et t5 (et t6 (et t7 (et hL.c (et (old_get hL.c) (et dtb (et kd (et kd0 (et kdh (et w2 hl2)))))))))))))) ?_;try exact⟨⟩)
     have hX:Dex K4.length (K6.length+3) (K6++[⟨ptC ps,0,true⟩,⟨[.int .i64 A,.bool cl,sl K6.length 0 0 ps.length 2,.int .i64 hw,.int .i64 e.x1,.int .i64 e.y1,.int .i64 e.x2,.int .i64 e.y2],0,true⟩,⟨[.int .i64 A,.bool cl,sl K6.length 0 0 ps.length 2,.int .i64 hw,.int .i64 e.x1,.int .i64 e.y1,.int .i64 e.x2,.int .i64 e.y2],0,true⟩,⟨[.int .i64 A,.bool cl,sl K6.length 0 0 ps.length 2,.int .i64 hw,.int .i64 e.x1,.int .i64 e.y1,.int .i64 e.x2,.int .i64 e.y2],0,true⟩]) (fun J=>PkE J [.int .i64 A,.bool cl,sl K6.length 0 0 ps.length 2,.int .i64 hw,.int .i64 e.x1,.int .i64 e.y1,.int .i64 e.x2,.int .i64 e.y2] (⟨A,(cl,ps),hw,e⟩:Pk)):=fun J hJ=>⟨_,rfl,.inr ⟨K6.length,0,[],true,rfl,by rw[List.append_nil];exact hJ K6.length _ hL.len0 (by omega) (by rw[hget_app0];rfl),by show ps.length≤_;omega⟩⟩
     have hL3:=hL.app [⟨ptC ps,0,true⟩,⟨[.int .i64 A,.bool cl,sl K6.length 0 0 ps.length 2,.int .i64 hw,.int .i64 e.x1,.int .i64 e.y1,.int .i64 e.x2,.int .i64 e.y2],0,true⟩,⟨[.int .i64 A,.bool cl,sl K6.length 0 0 ps.length 2,.int .i64 hw,.int .i64 e.x1,.int .i64 e.y1,.int .i64 e.x2,.int .i64 e.y2],0,true⟩,⟨[.int .i64 A,.bool cl,sl K6.length 0 0 ps.length 2,.int .i64 hw,.int .i64 e.x1,.int .i64 e.y1,.int .i64 e.x2,.int .i64 e.y2],0,true⟩]
     have hM3:MkRow 8 PkE K4.length (K6++[⟨ptC ps,0,true⟩,⟨[.int .i64 A,.bool cl,sl K6.length 0 0 ps.length 2,.int .i64 hw,.int .i64 e.x1,.int .i64 e.y1,.int .i64 e.x2,.int .i64 e.y2],0,true⟩,⟨[.int .i64 A,.bool cl,sl K6.length 0 0 ps.length 2,.int .i64 hw,.int .i64 e.x1,.int .i64 e.y1,.int .i64 e.x2,.int .i64 e.y2],0,true⟩,⟨[.int .i64 A,.bool cl,sl K6.length 0 0 ps.length 2,.int .i64 hw,.int .i64 e.x1,.int .i64 e.y1,.int .i64 e.x2,.int .i64 e.y2],0,true⟩]) (sl (K6.length+3) 0 0 1 8) [(⟨A,(cl,ps),hw,e⟩:Pk)]:=MkRow.first hX rfl (by rw[hget_app];rfl) (by have:=hL.len0;omega)
     have hL4:=hL3.put { sh00 with form:=3,n:=0,paths:=[(⟨A,(cl,ps),hw,e⟩:Pk)] } vw vh (sl (K6.length+3) 0 0 1 8) vc vd vda vf vt
     have hM4:=hM3.olt (Olx.set0 (H.length+1) _ ⟨shC { sh00 with form:=3,n:=0,paths:=[(⟨A,(cl,ps),hw,e⟩:Pk)] } vw vh (sl (K6.length+3) 0 0 1 8) vc vd vda vf vt,0,true⟩) (by have:=hk9.len;omega)
     refine(next_ 6 (by omega) _ hL4.tp.tape).x ?_
     rintro v H1 W1 ⟨⟨q,f1⟩,⟨q0,q1,f0,f2⟩,rfl,rfl,rfl⟩
     have q0:0≤q:=q0
     have q1:q<6:=q1
     have hL5:=hL4.step (a:=f1) f0 f2
     have hM5:=hM4.olt (Olx.set0 tb _ (tblk lv g f1)) (by have:=hk9.tp.lt;have:=hk9.len;omega)
     have w3:IntKind.i64.wrap (A+1+q)=A+1+q:=wi (by omega) (by omega)
     (refine sg (et t0 (et t2 (et t3 (et t4 (et t5 (et t6 (et t7 (et dtb (et kd (et kd0 (et kdh (et w1 (et w2 (et w3 hl2)))))))))))))) ?_;try exact⟨⟩)
     exact⟨k - 1,by omega,rfl,hD3,[(⟨A,(cl,ps),hw,e⟩:Pk)],A+1+q,_,rfl,hP',by simp at hlk ⊢;omega,(fun y hy=>by rw[List.mem_singleton.1 hy];show A<_;omega),by omega,by simp at hA1 ⊢;omega,(fun h=>by simp at h),hM5,hL5⟩
    ·have hfl:=flatten_len (RowOf.all hcs hel)
     rw[hcs] at hfl
     have db0:decide (bo<H.length)=false:=df (by have:=hk9.len;omega)
     have hsm:(l.length+1)*80 - 140737488355328=0:=Nat.sub_eq_zero_of_le (Nat.le_trans (Nat.mul_le_mul_right 80 (show l.length+1≤11 by omega)) (by decide))
     have hsm2:l.length+1 - 140737488355328=0:=Nat.sub_eq_zero_of_le (Nat.le_trans (show l.length+1≤11 by omega) (by decide))
     have f1:∀ P L,(K6.set bo P++L)[H.length+1]?=K6[H.length+1]?:=fun P L=>by rw[old_get (by rw[List.getElem?_set_ne (by have:=hk9.len;omega)];exact hL.c) L,hL.c]
     (refine sg (et t0 (et t2 (et t3 (et t4 (et t5 (et t6 (et t7 (et f1 (et hL.c (et (old_get hL.c) (et (old_get hb) (et (old_set hb) (et hfl (et hsm (et hsm2 (et db0 (et dtb (et kd (et kd0 (et kdh (et w2 hl2))))))))))))))))))))) ?_;try exact⟨⟩)
     have hlb:=(List.getElem?_eq_some_iff.1 hb).1
     have s20:∀ P (L:AH),(K6.set bo P++L)[K6.length]?=L[0]?:=fun P L=>by rw[show K6.length=(K6.set bo P).length by simp,hget_app0]
     have hX:Dex K4.length (bo) (K6.set bo ⟨cs.flatten++[.int .i64 A,.bool cl,sl K6.length 0 0 ps.length 2,.int .i64 hw,.int .i64 e.x1,.int .i64 e.y1,.int .i64 e.x2,.int .i64 e.y2],go+1,true⟩++[⟨ptC ps,0,true⟩,⟨[.int .i64 A,.bool cl,sl K6.length 0 0 ps.length 2,.int .i64 hw,.int .i64 e.x1,.int .i64 e.y1,.int .i64 e.x2,.int .i64 e.y2],0,true⟩,⟨[.int .i64 A,.bool cl,sl K6.length 0 0 ps.length 2,.int .i64 hw,.int .i64 e.x1,.int .i64 e.y1,.int .i64 e.x2,.int .i64 e.y2],0,true⟩]) (fun J=>PkE J [.int .i64 A,.bool cl,sl K6.length 0 0 ps.length 2,.int .i64 hw,.int .i64 e.x1,.int .i64 e.y1,.int .i64 e.x2,.int .i64 e.y2] (⟨A,(cl,ps),hw,e⟩:Pk)):=fun J hJ=>⟨_,rfl,.inr ⟨K6.length,0,[],true,rfl,by rw[List.append_nil];exact hJ K6.length _ hL.len0 (by omega) (by rw[s20];rfl),by show ps.length≤_;omega⟩⟩
     have hL3:=hL.bo hbo (Olx.set1 bo K6 [⟨ptC ps,0,true⟩,⟨[.int .i64 A,.bool cl,sl K6.length 0 0 ps.length 2,.int .i64 hw,.int .i64 e.x1,.int .i64 e.y1,.int .i64 e.x2,.int .i64 e.y2],0,true⟩,⟨[.int .i64 A,.bool cl,sl K6.length 0 0 ps.length 2,.int .i64 hw,.int .i64 e.x1,.int .i64 e.y1,.int .i64 e.x2,.int .i64 e.y2],0,true⟩] ⟨cs.flatten++[.int .i64 A,.bool cl,sl K6.length 0 0 ps.length 2,.int .i64 hw,.int .i64 e.x1,.int .i64 e.y1,.int .i64 e.x2,.int .i64 e.y2],go+1,true⟩) (by simp)
     have hM3:=MkRow.next (E:=PkE) (n0:=K4.length) (K:=K6) (J:=K6.set bo ⟨cs.flatten++[.int .i64 A,.bool cl,sl K6.length 0 0 ps.length 2,.int .i64 hw,.int .i64 e.x1,.int .i64 e.y1,.int .i64 e.x2,.int .i64 e.y2],go+1,true⟩++[⟨ptC ps,0,true⟩,⟨[.int .i64 A,.bool cl,sl K6.length 0 0 ps.length 2,.int .i64 hw,.int .i64 e.x1,.int .i64 e.y1,.int .i64 e.x2,.int .i64 e.y2],0,true⟩,⟨[.int .i64 A,.bool cl,sl K6.length 0 0 ps.length 2,.int .i64 hw,.int .i64 e.x1,.int .i64 e.y1,.int .i64 e.x2,.int .i64 e.y2],0,true⟩]) (g':=go+1) hbo hcs hel (Olx.set1 _ _ _ _) hX rfl (old_sget hb _ _)
     have hL4:=hL3.put { sh00 with form:=3,n:=0,paths:=l++[(⟨A,(cl,ps),hw,e⟩:Pk)] } vw vh (sl bo 0 (go+1) (l.length+1) 8) vc vd vda vf vt
     have hM4:=hM3.olt (Olx.set0 (H.length+1) _ ⟨shC { sh00 with form:=3,n:=0,paths:=l++[(⟨A,(cl,ps),hw,e⟩:Pk)] } vw vh (sl bo 0 (go+1) (l.length+1) 8) vc vd vda vf vt,0,true⟩) (by have:=hk9.len;omega)
     refine(next_ 6 (by omega) _ hL4.tp.tape).x ?_
     rintro v H1 W1 ⟨⟨q,f1⟩,⟨q0,q1,f0,f2⟩,rfl,rfl,rfl⟩
     have q0:0≤q:=q0
     have q1:q<6:=q1
     have hL5:=hL4.step (a:=f1) f0 f2
     have hM5:=hM4.olt (Olx.set0 tb _ (tblk lv g f1)) (by have:=hk9.tp.lt;have:=hk9.len;omega)
     have w3:IntKind.i64.wrap (A+1+q)=A+1+q:=wi (by omega) (by omega)
     (refine sg (et t0 (et t2 (et t3 (et t4 (et t5 (et t6 (et t7 (et dtb (et kd (et kd0 (et kdh (et w1 (et w2 (et w3 (et hl2 db0))))))))))))))) ?_;try exact⟨⟩)
     exact⟨k - 1,by omega,rfl,hD3,l++[(⟨A,(cl,ps),hw,e⟩:Pk)],A+1+q,_,rfl,hP',by rw[List.length_append];show l.length+1+_=nq;omega,(fun y hy=>by
      rcases List.mem_append.1 hy with hy|hy
      ·have:=hlow y hy;omega
      ·rw[List.mem_singleton.1 hy];show A<_;omega),by omega,by rw[List.length_append];show _≤3+6*((l.length+1:Nat):Int);omega,(fun h=>by simp at h),hM5,hL5⟩
   ·have hk0:k=0:=by omega
    subst hk0
    (refine sg (et t0 (et t2 (et t3 (et t4 (et t5 (et t6 (et t7 (df (show ¬ (0:Int)<((0:Nat):Int) by omega))))))))) ?_;try exact⟨⟩)
    refine⟨{ sh00 with form:=3,n:=0,paths:=l },⟨⟨form_drawn (hP.b (by omega)),rfl,rfl,rfl,rfl,rfl,rfl,rfl,rfl⟩,rfl⟩,⟨hD,by(refine sg t0 ?_;try exact⟨⟩),by(refine sg t2 ?_;try exact⟨⟩),by(refine sg t3 ?_;try exact⟨⟩),_,_,_,_,_,_,_,_,⟨hL.tp,Nat.le_trans hL.len hL.len0,hL.z,hL.c,?_,hz,hk9.md⟩⟩⟩
    exact fun J hJ=>by
     have r:=hk9.r J fun c k hc e=>hJ c k hc (hL.rel c k hc e)
     have r2:=(hM.low hL.len).dep (by omega) J hJ
     exact⟨r.w,r.h,r2,r.colors,r.width,r.dash,r.frm,r.to⟩
  ·rw[df hF] at t22
   rw[wcode_cond_f (show ev T (.tmp 22)=some (.bool false) by show some (T 22)=_;rw[t22])]
   refine xcut (fun T K D=>∃ lw,keysB lw=true∧ShW H tb g lv ls { sh00 with form:=F,n:=N,w:=lw } T K D) ?_ ?_
   ·obtain⟨vw,vh,vp,vc,vd,vda,vf,vt,hk⟩:=hs.k
    (refine sg (et hs.t0 (et hs.t2 (et hs.t3 hk.c))) ?_;try exact⟨⟩)
    refine(kkeys_ 1 14 (by omega) (by omega) (by omega) _ hk.tp.tape).x ?_
    rintro v H1 W1 ⟨hW,hT,l,hM,hl⟩
    have hk1:=hk.trans hT
    (refine sg (et hs.t0 (et hs.t2 (et hs.t3 dtb))) ?_;try exact⟨⟩)
    refine(number_ 1 14 (by omega) (by omega) (by omega) _ hk1.tp.tape).x ?_
    rintro v H2 W2 ⟨⟨nn,c1⟩,⟨n0,n1,c0,c2⟩,rfl,rfl,rfl⟩
    have n0:1*65536≤nn:=n0
    have n1:nn<14*65536+65536:=n1
    have hM:=hM.olt (Olx.set0 tb H1 (tblk lv g c1)) (by have:=hk.tp.lt;have:=hk.len;omega)
    have hT:=hT.step (a:=c1) c0 c2
    have hk2:=hk.trans hT
    clear hk1
    generalize H1.set tb (tblk lv g c1)=K2 at *
    have kd:∀ n,decide (K2.length+n<H.length)=false:=fun n=>df (by have:=hk2.len;omega)
    have kd0:decide (K2.length<H.length)=false:=df (by have:=hk2.len;omega)
    have hkb:=hl.k60 (n:=nn) (by omega)
    have hlen:(l++[(⟨60,nn,0,ez00⟩:Ky)]).length≤9223372036854775807:=by rw[List.length_append];have:=hl.len;show l.length+1≤_;omega
    rcases hM with ⟨rfl,rfl⟩|⟨bo,go,cs,hbo,rfl,hb,hcs,hel⟩
    ·have hT3:=hT.app [⟨kyC ⟨60,nn,0,ez00⟩,0,true⟩,⟨kyC ⟨60,nn,0,ez00⟩,0,true⟩]
     have hM3:MkRow 7 KyE K.length (K2++[⟨kyC ⟨60,nn,0,ez00⟩,0,true⟩,⟨kyC ⟨60,nn,0,ez00⟩,0,true⟩]) (sl (K2.length+1) 0 0 1 7) [⟨60,nn,0,ez00⟩]:=
      MkRow.first (c:=kyC ⟨60,nn,0,ez00⟩) (fun J _=>rfl) rfl (by rw[hget_app];rfl) (by have:=hT.len;omega)
     have hk3:=hk.trans hT3
     (refine sg (et hs.t0 (et hs.t2 (et hs.t3 (et (old_get hk2.c) (et dtb (et kd (et kd0 kdh))))))) ?_;try exact⟨⟩)
     exact⟨[(⟨60,nn,0,ez00⟩:Ky)],hkb,⟨snoc (snocF hs.d hW htb),by(refine sg hs.t0 ?_;try exact⟨⟩),by(refine sg hs.t2 ?_;try exact⟨⟩),by(refine sg hs.t3 ?_;try exact⟨⟩),_,_,_,_,_,_,_,_,hk3.put (s':={ sh00 with form:=F,n:=N,w:=[(⟨60,nn,0,ez00⟩:Ky)] }) ((hk3.r.and ((hM3.low hk.len).dep hlen)).map fun _ r=>⟨r.2,r.1.h,r.1.paths,r.1.colors,r.1.width,r.1.dash,r.1.frm,r.1.to⟩) hk3.mp hk3.md⟩⟩
    ·have hfl:=flatten_len (RowOf.all hcs hel)
     rw[hcs] at hfl
     have db0:decide (bo<H.length)=false:=df (by have:=hk.len;omega)
     have hsm:(l.length+1)*56 - 140737488355328=0:=Nat.sub_eq_zero_of_le (Nat.le_trans (Nat.mul_le_mul_right 56 (show l.length+1≤11 by have:=hl.len;omega)) (by decide))
     have hsm2:l.length+1 - 140737488355328=0:=Nat.sub_eq_zero_of_le (Nat.le_trans (show l.length+1≤11 by have:=hl.len;omega) (by decide))
     have hT3:=(hT.bo hbo (Olx.set1 bo K2 [⟨kyC ⟨60,nn,0,ez00⟩,0,true⟩] ⟨cs.flatten++kyC ⟨60,nn,0,ez00⟩,go+1,true⟩) (by simp))
     have hM3:=MkRow.next (E:=KyE) (n0:=K.length) (K:=K2) (J:=K2.set bo ⟨cs.flatten++kyC ⟨60,nn,0,ez00⟩,go+1,true⟩++[⟨kyC ⟨60,nn,0,ez00⟩,0,true⟩]) (g':=go+1) (x:=⟨60,nn,0,ez00⟩) (c:=kyC ⟨60,nn,0,ez00⟩) hbo hcs hel (Olx.set1 _ _ _ _) (fun J _=>rfl) rfl (old_sget hb _ _)
     have hk3:=hk.trans hT3
     have f1:∀ P L,(K2.set bo P++L)[H.length+1]?=K2[H.length+1]?:=fun P L=>by rw[old_get (by rw[List.getElem?_set_ne (by have:=hk.len;omega)];exact hk2.c) L,hk2.c]
     (refine sg (et hs.t0 (et hs.t2 (et hs.t3 (et f1 (et hk2.c (et (old_get hb) (et (old_set hb) (et hfl (et hsm (et hsm2 (et db0 (et dtb (et kd (et kd0 kdh)))))))))))))) ?_;try exact⟨⟩)
     exact⟨l++[(⟨60,nn,0,ez00⟩:Ky)],hkb,⟨snoc (snocF hs.d hW htb),by(refine sg hs.t0 ?_;try exact⟨⟩),by(refine sg hs.t2 ?_;try exact⟨⟩),by(refine sg hs.t3 ?_;try exact⟨⟩),_,_,_,_,_,_,_,_,hk3.put (s':={ sh00 with form:=F,n:=N,w:=l++[(⟨60,nn,0,ez00⟩:Ky)] }) ((hk3.r.and ((hM3.low hk.len).dep hlen)).map fun _ r=>⟨r.2,r.1.h,r.1.paths,r.1.colors,r.1.width,r.1.dash,r.1.frm,r.1.to⟩) hk3.mp hk3.md⟩⟩

   clear hs
   rintro T K D ⟨lw,hw,hs⟩
   obtain⟨vw,vh,vp,vc,vd,vda,vf,vt,hk⟩:=hs.k
   (refine sg (et hs.t0 (et hs.t2 (et hs.t3 hk.c))) ?_;try exact⟨⟩)
   refine(kkeys_ 1 14 (by omega) (by omega) (by omega) _ hk.tp.tape).x ?_
   rintro v H1 W1 ⟨hW,hT,l,hM,hl⟩
   have hk1:=hk.trans hT
   (refine sg (et hs.t0 (et hs.t2 (et hs.t3 dtb))) ?_;try exact⟨⟩)
   refine(number_ 1 14 (by omega) (by omega) (by omega) _ hk1.tp.tape).x ?_
   rintro v H2 W2 ⟨⟨nn,c1⟩,⟨n0,n1,c0,c2⟩,rfl,rfl,rfl⟩
   have n0:1*65536≤nn:=n0
   have n1:nn<14*65536+65536:=n1
   have hM:=hM.olt (Olx.set0 tb H1 (tblk lv g c1)) (by have:=hk.tp.lt;have:=hk.len;omega)
   have hT:=hT.step (a:=c1) c0 c2
   have hk2:=hk.trans hT
   clear hk1
   generalize H1.set tb (tblk lv g c1)=K2 at *
   have kd:∀ n,decide (K2.length+n<H.length)=false:=fun n=>df (by have:=hk2.len;omega)
   have kd0:decide (K2.length<H.length)=false:=df (by have:=hk2.len;omega)
   have hkb:=hl.k60 (n:=nn) (by omega)
   have hlen:(l++[(⟨60,nn,0,ez00⟩:Ky)]).length≤9223372036854775807:=by rw[List.length_append];have:=hl.len;show l.length+1≤_;omega
   rcases hM with ⟨rfl,rfl⟩|⟨bo,go,cs,hbo,rfl,hb,hcs,hel⟩
   ·have hT3:=hT.app [⟨kyC ⟨60,nn,0,ez00⟩,0,true⟩,⟨kyC ⟨60,nn,0,ez00⟩,0,true⟩]
    have hM3:MkRow 7 KyE K.length (K2++[⟨kyC ⟨60,nn,0,ez00⟩,0,true⟩,⟨kyC ⟨60,nn,0,ez00⟩,0,true⟩]) (sl (K2.length+1) 0 0 1 7) [⟨60,nn,0,ez00⟩]:=
     MkRow.first (c:=kyC ⟨60,nn,0,ez00⟩) (fun J _=>rfl) rfl (by rw[hget_app];rfl) (by have:=hT.len;omega)
    have hk3:=hk.trans hT3
    (refine sg (et hs.t0 (et hs.t2 (et hs.t3 (et (old_get hk2.c) (et dtb (et kd (et kd0 kdh))))))) ?_;try exact⟨⟩)
    exact⟨{ sh00 with form:=F,n:=N,w:=lw,h:=[(⟨60,nn,0,ez00⟩:Ky)] },⟨⟨form_not F0 F1 hN hF hw hkb,rfl,rfl,rfl,rfl,rfl,rfl,rfl,rfl⟩,rfl⟩,⟨snoc (snocF hs.d hW htb),by(refine sg hs.t0 ?_;try exact⟨⟩),by(refine sg hs.t2 ?_;try exact⟨⟩),by(refine sg hs.t3 ?_;try exact⟨⟩),_,_,_,_,_,_,_,_,hk3.put (s':={ sh00 with form:=F,n:=N,w:=lw,h:=[(⟨60,nn,0,ez00⟩:Ky)] }) ((hk3.r.and ((hM3.low hk.len).dep hlen)).map fun _ r=>⟨r.1.w,r.2,r.1.paths,r.1.colors,r.1.width,r.1.dash,r.1.frm,r.1.to⟩) hk3.mp hk3.md⟩⟩
   ·have hfl:=flatten_len (RowOf.all hcs hel)
    rw[hcs] at hfl
    have db0:decide (bo<H.length)=false:=df (by have:=hk.len;omega)
    have hsm:(l.length+1)*56 - 140737488355328=0:=Nat.sub_eq_zero_of_le (Nat.le_trans (Nat.mul_le_mul_right 56 (show l.length+1≤11 by have:=hl.len;omega)) (by decide))
    have hsm2:l.length+1 - 140737488355328=0:=Nat.sub_eq_zero_of_le (Nat.le_trans (show l.length+1≤11 by have:=hl.len;omega) (by decide))
    have hT3:=(hT.bo hbo (Olx.set1 bo K2 [⟨kyC ⟨60,nn,0,ez00⟩,0,true⟩] ⟨cs.flatten++kyC ⟨60,nn,0,ez00⟩,go+1,true⟩) (by simp))
    have hM3:=MkRow.next (E:=KyE) (n0:=K.length) (K:=K2) (J:=K2.set bo ⟨cs.flatten++kyC ⟨60,nn,0,ez00⟩,go+1,true⟩++[⟨kyC ⟨60,nn,0,ez00⟩,0,true⟩]) (g':=go+1) (x:=⟨60,nn,0,ez00⟩) (c:=kyC ⟨60,nn,0,ez00⟩) hbo hcs hel (Olx.set1 _ _ _ _) (fun J _=>rfl) rfl (old_sget hb _ _)
    have hk3:=hk.trans hT3
    have f1:∀ P L,(K2.set bo P++L)[H.length+1]?=K2[H.length+1]?:=fun P L=>by rw[old_get (by rw[List.getElem?_set_ne (by have:=hk.len;omega)];exact hk2.c) L,hk2.c]
    (refine sg (et hs.t0 (et hs.t2 (et hs.t3 (et f1 (et hk2.c (et (old_get hb) (et (old_set hb) (et hfl (et hsm (et hsm2 (et db0 (et dtb (et kd (et kd0 kdh)))))))))))))) ?_;try exact⟨⟩)
    exact⟨{ sh00 with form:=F,n:=N,w:=lw,h:=l++[(⟨60,nn,0,ez00⟩:Ky)] },⟨⟨form_not F0 F1 hN hF hw hkb,rfl,rfl,rfl,rfl,rfl,rfl,rfl,rfl⟩,rfl⟩,⟨snoc (snocF hs.d hW htb),by(refine sg hs.t0 ?_;try exact⟨⟩),by(refine sg hs.t2 ?_;try exact⟨⟩),by(refine sg hs.t3 ?_;try exact⟨⟩),_,_,_,_,_,_,_,_,hk3.put (s':={ sh00 with form:=F,n:=N,w:=lw,h:=l++[(⟨60,nn,0,ez00⟩:Ky)] }) ((hk3.r.and ((hM3.low hk.len).dep hlen)).map fun _ r=>⟨r.1.w,r.2,r.1.paths,r.1.colors,r.1.width,r.1.dash,r.1.frm,r.1.to⟩) hk3.mp hk3.md⟩⟩
 clear hs
 rintro T K D ⟨s,⟨hB,hd⟩,hs⟩
 refine xcut (fun T K D=>∃ s,(ShB s∧s.dash=[])∧ShW H tb g lv ls s T K D) ?_ ?_
 ·obtain⟨vw,vh,vp,vc,vd,vda,vf,vt,hk⟩:=hs.k
  (refine sg (et hs.t0 (et hs.t2 (et hs.t3 hk.c))) ?_;try exact⟨⟩)
  refine(next_ 3 (by omega) _ hk.tp.tape).x ?_
  rintro v H1 W1 ⟨⟨x,a1⟩,⟨x0,x1,a0,a2⟩,rfl,rfl,rfl⟩
  have x0:0≤x:=x0
  have x1:x<3:=x1
  have hk:=hk.step (a:=a1) a0 a2
  generalize K.set tb (tblk lv g a1)=K1 at *
  (refine sg (et hs.t0 (et hs.t2 (et hs.t3 (et hk.c (et dtb kdh))))) ?_;try exact⟨⟩)
  exact⟨{ s with fill:=decide (0<x) },⟨⟨hB.form,hB.rule,hB.paint,hB.colors,hB.width,hB.frm,hB.to,hB.cap,hB.dash⟩,hd⟩,⟨snoc hs.d,by(refine sg hs.t0 ?_;try exact⟨⟩),by(refine sg hs.t2 ?_;try exact⟨⟩),by(refine sg hs.t3 ?_;try exact⟨⟩),_,_,_,_,_,_,_,_,hk.put (s':={ s with fill:=decide (0<x) }) (hk.r.map fun _ r=>⟨r.w,r.h,r.paths,r.colors,r.width,r.dash,r.frm,r.to⟩) hk.mp hk.md⟩⟩
 clear hs
 rintro T K D ⟨s,⟨hB,hd⟩,hs⟩
 refine xcut (fun T K D=>∃ s,(ShB s∧s.dash=[])∧ShW H tb g lv ls s T K D) ?_ ?_
 ·obtain⟨vw,vh,vp,vc,vd,vda,vf,vt,hk⟩:=hs.k
  (refine sg (et hs.t0 (et hs.t2 (et hs.t3 hk.c))) ?_;try exact⟨⟩)
  refine(next_ 2 (by omega) _ hk.tp.tape).x ?_
  rintro v H1 W1 ⟨⟨x,a1⟩,⟨x0,x1,a0,a2⟩,rfl,rfl,rfl⟩
  have x0:0≤x:=x0
  have x1:x<2:=x1
  have hk:=hk.step (a:=a1) a0 a2
  generalize K.set tb (tblk lv g a1)=K1 at *
  (refine sg (et hs.t0 (et hs.t2 (et hs.t3 (et hk.c (et dtb kdh))))) ?_;try exact⟨⟩)
  exact⟨{ s with rule:=x },⟨⟨hB.form,two_ x0 x1,hB.paint,hB.colors,hB.width,hB.frm,hB.to,hB.cap,hB.dash⟩,hd⟩,⟨snoc hs.d,by(refine sg hs.t0 ?_;try exact⟨⟩),by(refine sg hs.t2 ?_;try exact⟨⟩),by(refine sg hs.t3 ?_;try exact⟨⟩),_,_,_,_,_,_,_,_,hk.put (s':={ s with rule:=x }) (hk.r.map fun _ r=>⟨r.w,r.h,r.paths,r.colors,r.width,r.dash,r.frm,r.to⟩) hk.mp hk.md⟩⟩
 clear hs
 rintro T K D ⟨s,⟨hB,hd⟩,hs⟩
 refine xcut (fun T K D=>∃ s,(ShB s∧s.dash=[])∧ShW H tb g lv ls s T K D) ?_ ?_
 ·obtain⟨vw,vh,vp,vc,vd,vda,vf,vt,hk⟩:=hs.k
  (refine sg (et hs.t0 (et hs.t2 (et hs.t3 hk.c))) ?_;try exact⟨⟩)
  refine(kpaint_ _ hk.tp.tape).x ?_
  rintro v H1 W1 ⟨⟨p,a1⟩,⟨hp,a0,a2⟩,rfl,rfl,rfl⟩
  have hp:paintB p=true:=hp
  have hk:=hk.step (a:=a1) a0 a2
  generalize K.set tb (tblk lv g a1)=K1 at *
  (refine sg (et hs.t0 (et hs.t2 (et hs.t3 (et hk.c (et dtb kdh))))) ?_;try exact⟨⟩)
  exact⟨{ s with paint:=p },⟨⟨hB.form,hB.rule,hp,hB.colors,hB.width,hB.frm,hB.to,hB.cap,hB.dash⟩,hd⟩,⟨snoc hs.d,by(refine sg hs.t0 ?_;try exact⟨⟩),by(refine sg hs.t2 ?_;try exact⟨⟩),by(refine sg hs.t3 ?_;try exact⟨⟩),_,_,_,_,_,_,_,_,hk.put (s':={ s with paint:=p }) (hk.r.map fun _ r=>⟨r.w,r.h,r.paths,r.colors,r.width,r.dash,r.frm,r.to⟩) hk.mp hk.md⟩⟩
 clear hs
 rintro T K D ⟨s,⟨hB,hd⟩,hs⟩
 refine xcut (fun T K D=>∃ s,(ShB s∧s.dash=[])∧ShW H tb g lv ls s T K D) ?_ ?_
 ·obtain⟨vw,vh,vp,vc,vd,vda,vf,vt,hk⟩:=hs.k
  (refine sg (et hs.t0 (et hs.t2 (et hs.t3 hk.c))) ?_;try exact⟨⟩)
  refine(next_ 3 (by omega) _ hk.tp.tape).x ?_
  rintro v H1 W1 ⟨⟨x,a1⟩,⟨x0,x1,a0,a2⟩,rfl,rfl,rfl⟩
  have x0:0≤x:=x0
  have x1:x<3:=x1
  have hk:=hk.step (a:=a1) a0 a2
  generalize K.set tb (tblk lv g a1)=K1 at *
  by_cases hx:x=0
  ·(refine sg (et hs.t0 (et hs.t2 (et hs.t3 (et hk.c (et (bt hx) dtb))))) ?_;try exact⟨⟩)
   refine(next_ 5 (by omega) _ hk.tp.tape).x ?_
   rintro v H1 W1 ⟨⟨q1,b1⟩,⟨p0,p1,b0,b2⟩,rfl,rfl,rfl⟩
   have p0:0≤q1:=p0
   have p1:q1<5:=p1
   have hk:=hk.step (a:=b1) b0 b2
   generalize K1.set tb (tblk lv g b1)=K2 at *
   (refine sg (et hs.t0 (et hs.t2 (et hs.t3 (et hk.c dtb)))) ?_;try exact⟨⟩)
   refine(kcolor_ _ hk.tp.tape).x ?_
   rintro v H1 W1 ⟨⟨ca,c1⟩,⟨_,c0,c2⟩,rfl,rfl,rfl⟩
   have hk:=hk.step (a:=c1) c0 c2
   generalize K2.set tb (tblk lv g c1)=K3 at *
   (refine sg (et hs.t0 (et hs.t2 (et hs.t3 (et hk.c dtb)))) ?_;try exact⟨⟩)
   refine(next_ 9 (by omega) _ hk.tp.tape).x ?_
   rintro v H1 W1 ⟨⟨q2,d1⟩,⟨r0,r1,d0,d2⟩,rfl,rfl,rfl⟩
   have r0:0≤q2:=r0
   have r1:q2<9:=r1
   have hk:=hk.step (a:=d1) d0 d2
   generalize K3.set tb (tblk lv g d1)=K4 at *
   have w5:IntKind.i64.wrap (5+q2)=5+q2:=wi (by omega) (by omega)
   (refine sg (et hs.t0 (et hs.t2 (et hs.t3 (et hk.c (et dtb w5))))) ?_;try exact⟨⟩)
   refine(kcolor_ _ hk.tp.tape).x ?_
   rintro v H1 W1 ⟨⟨cb,e1⟩,⟨_,e0,e2⟩,rfl,rfl,rfl⟩
   have hk:=hk.step (a:=e1) e0 e2
   generalize K4.set tb (tblk lv g e1)=K5 at *
   have kd:∀ n,decide (K5.length+n<H.length)=false:=fun n=>df (by have:=hk.len;omega)
   have kd0:decide (K5.length<H.length)=false:=df (by have:=hk.len;omega)
   have hk6:=hk.app [⟨ckC ⟨q1,ca,1,ez00⟩++ckC ⟨5+q2,cb,0,ez00⟩,0,true⟩]
   have hR:Dep (H.length+2) (K5++[⟨ckC ⟨q1,ca,1,ez00⟩++ckC ⟨5+q2,cb,0,ez00⟩,0,true⟩]) (fun J=>Cks J (sl K5.length 0 0 2 10) [⟨q1,ca,1,ez00⟩,⟨5+q2,cb,0,ez00⟩]):=fun J hJ=>by
    refine .inr ⟨K5.length,0,[],true,[ckC ⟨q1,ca,1,ez00⟩,ckC ⟨5+q2,cb,0,ez00⟩],rfl,hJ _ _ (by have:=hk.len;omega) (by rw[hget_app0];rfl),rfl,by simp,fun i x hx=>?_⟩
    match i,hx with
    | 0,hx=>simp at hx;subst hx;exact⟨_,rfl,rfl,rfl⟩
    | 1,hx=>simp at hx;subst hx;exact⟨_,rfl,rfl,rfl⟩
    | i+2,hx=>simp at hx
   (refine sg (et hs.t0 (et hs.t2 (et hs.t3 (et hk.c (et (old_get hk.c) (et dtb (et kd (et kd0 kdh)))))))) ?_;try exact⟨⟩)
   exact⟨{ s with colors:=[(⟨q1,ca,1,ez00⟩:Ck),⟨5+q2,cb,0,ez00⟩] },⟨⟨hB.form,hB.rule,hB.paint,cks2 (by omega) (by omega) (by omega),hB.width,hB.frm,hB.to,hB.cap,hB.dash⟩,hd⟩,⟨snoc (snoc (snoc (snoc (snoc hs.d)))),by(refine sg hs.t0 ?_;try exact⟨⟩),by(refine sg hs.t2 ?_;try exact⟨⟩),by(refine sg hs.t3 ?_;try exact⟨⟩),_,_,_,_,_,_,_,_,hk6.put (s':={ s with colors:=[(⟨q1,ca,1,ez00⟩:Ck),⟨5+q2,cb,0,ez00⟩] }) ((hk6.r.and hR).map fun _ r=>⟨r.1.w,r.1.h,r.1.paths,r.2,r.1.width,r.1.dash,r.1.frm,r.1.to⟩) hk6.mp hk6.md⟩⟩
  ·(refine sg (et hs.t0 (et hs.t2 (et hs.t3 (et hk.c (et (bf hx) dtb))))) ?_;try exact⟨⟩)
   exact⟨s,⟨hB,hd⟩,⟨snoc hs.d,by(refine sg hs.t0 ?_;try exact⟨⟩),by(refine sg hs.t2 ?_;try exact⟨⟩),by(refine sg hs.t3 ?_;try exact⟨⟩),_,_,_,_,_,_,_,_,hk⟩⟩
 clear hs
 rintro T K D ⟨s,⟨hB,hd⟩,hs⟩
 refine xcut (fun T K D=>∃ s,(ShB s∧s.dash=[])∧ShW H tb g lv ls s T K D) ?_ ?_
 ·obtain⟨vw,vh,vp,vc,vd,vda,vf,vt,hk⟩:=hs.k
  (refine sg (et hs.t0 (et hs.t2 (et hs.t3 hk.c))) ?_;try exact⟨⟩)
  refine(next_ 3 (by omega) _ hk.tp.tape).x ?_
  rintro v H1 W1 ⟨⟨x,a1⟩,⟨x0,x1,a0,a2⟩,rfl,rfl,rfl⟩
  have x0:0≤x:=x0
  have x1:x<3:=x1
  have hk:=hk.step (a:=a1) a0 a2
  generalize K.set tb (tblk lv g a1)=K1 at *
  by_cases hx:x=0
  ·(refine sg (et hs.t0 (et hs.t2 (et hs.t3 (et hk.c (et (bt hx) (et dtb kdh)))))) ?_;try exact⟨⟩)
   exact⟨{ s with stroke:=true },⟨⟨hB.form,hB.rule,hB.paint,hB.colors,hB.width,hB.frm,hB.to,hB.cap,hB.dash⟩,hd⟩,⟨snoc hs.d,by(refine sg hs.t0 ?_;try exact⟨⟩),by(refine sg hs.t2 ?_;try exact⟨⟩),by(refine sg hs.t3 ?_;try exact⟨⟩),_,_,_,_,_,_,_,_,hk.put (s':={ s with stroke:=true }) (hk.r.map fun _ r=>⟨r.w,r.h,r.paths,r.colors,r.width,r.dash,r.frm,r.to⟩) hk.mp hk.md⟩⟩
  ·(refine sg (et hs.t0 (et hs.t2 (et hs.t3 (et hk.c (et (bf hx) (et dtb kdh)))))) ?_;try exact⟨⟩)
   exact⟨{ s with stroke:=!s.fill },⟨⟨hB.form,hB.rule,hB.paint,hB.colors,hB.width,hB.frm,hB.to,hB.cap,hB.dash⟩,hd⟩,⟨snoc hs.d,by(refine sg hs.t0 ?_;try exact⟨⟩),by(refine sg hs.t2 ?_;try exact⟨⟩),by(refine sg hs.t3 ?_;try exact⟨⟩),_,_,_,_,_,_,_,_,hk.put (s':={ s with stroke:=!s.fill }) (hk.r.map fun _ r=>⟨r.w,r.h,r.paths,r.colors,r.width,r.dash,r.frm,r.to⟩) hk.mp hk.md⟩⟩
 clear hs
 rintro T K D ⟨s,⟨hB,hd⟩,hs⟩
 refine xcut (fun T K D=>∃ s,ShB s∧ShW H tb g lv ls s T K D) ?_ ?_
 ·refine xcut (fun T K D=>T 114=.bool s.stroke∧ShW H tb g lv ls s T K D) ?_ ?_
  ·obtain⟨vw,vh,vp,vc,vd,vda,vf,vt,hk⟩:=hs.k
   (refine sg (et hs.t0 (et hs.t2 (et hs.t3 hk.c))) ?_;try exact⟨⟩)
   exact⟨hs.d,by(refine sg hs.t0 ?_;try exact⟨⟩),by(refine sg hs.t2 ?_;try exact⟨⟩),by(refine sg hs.t3 ?_;try exact⟨⟩),_,_,_,_,_,_,_,_,hk⟩
  clear hs
  rintro T K D ⟨t114,hs⟩
  by_cases hF:s.stroke=true
  ·rw[hF] at t114
   rw[wcode_cond_t (show ev T (.tmp 114)=some (.bool true) by show some (T 114)=_;rw[t114])]
   refine xcut (fun T K D=>∃ s,(ShB s∧s.dash=[])∧ShW H tb g lv ls s T K D) ?_ ?_
   ·obtain⟨vw,vh,vp,vc,vd,vda,vf,vt,hk⟩:=hs.k
    (refine sg (et hs.t0 (et hs.t2 (et hs.t3 hk.c))) ?_;try exact⟨⟩)
    refine(kkeys_ 0 4 (by omega) (by omega) (by omega) _ hk.tp.tape).x ?_
    rintro v H1 W1 ⟨hW,hT,l,hM,hl⟩
    have hk1:=hk.trans hT
    (refine sg (et hs.t0 (et hs.t2 (et hs.t3 dtb))) ?_;try exact⟨⟩)
    refine(number_ 1 4 (by omega) (by omega) (by omega) _ hk1.tp.tape).x ?_
    rintro v H2 W2 ⟨⟨nn,c1⟩,⟨n0,n1,c0,c2⟩,rfl,rfl,rfl⟩
    have n0:1*65536≤nn:=n0
    have n1:nn<4*65536+65536:=n1
    have hM:=hM.olt (Olx.set0 tb H1 (tblk lv g c1)) (by have:=hk.tp.lt;have:=hk.len;omega)
    have hT:=hT.step (a:=c1) c0 c2
    have hk2:=hk.trans hT
    clear hk1
    generalize H1.set tb (tblk lv g c1)=K2 at *
    have kd:∀ n,decide (K2.length+n<H.length)=false:=fun n=>df (by have:=hk2.len;omega)
    have kd0:decide (K2.length<H.length)=false:=df (by have:=hk2.len;omega)
    have hkb:=hl.k60 (n:=nn) (by omega)
    have hlen:(l++[(⟨60,nn,0,ez00⟩:Ky)]).length≤9223372036854775807:=by rw[List.length_append];have:=hl.len;show l.length+1≤_;omega
    rcases hM with ⟨rfl,rfl⟩|⟨bo,go,cs,hbo,rfl,hb,hcs,hel⟩
    ·have hT3:=hT.app [⟨kyC ⟨60,nn,0,ez00⟩,0,true⟩,⟨kyC ⟨60,nn,0,ez00⟩,0,true⟩]
     have hM3:MkRow 7 KyE K.length (K2++[⟨kyC ⟨60,nn,0,ez00⟩,0,true⟩,⟨kyC ⟨60,nn,0,ez00⟩,0,true⟩]) (sl (K2.length+1) 0 0 1 7) [⟨60,nn,0,ez00⟩]:=
      MkRow.first (c:=kyC ⟨60,nn,0,ez00⟩) (fun J _=>rfl) rfl (by rw[hget_app];rfl) (by have:=hT.len;omega)
     have hk3:=hk.trans hT3
     (refine sg (et hs.t0 (et hs.t2 (et hs.t3 (et (old_get hk2.c) (et dtb (et kd (et kd0 kdh))))))) ?_;try exact⟨⟩)
     exact⟨{ s with width:=[(⟨60,nn,0,ez00⟩:Ky)] },⟨⟨hB.form,hB.rule,hB.paint,hB.colors,hkb,hB.frm,hB.to,hB.cap,hB.dash⟩,hd⟩,⟨snoc (snocF hs.d hW htb),by(refine sg hs.t0 ?_;try exact⟨⟩),by(refine sg hs.t2 ?_;try exact⟨⟩),by(refine sg hs.t3 ?_;try exact⟨⟩),_,_,_,_,_,_,_,_,hk3.put (s':={ s with width:=[(⟨60,nn,0,ez00⟩:Ky)] }) ((hk3.r.and ((hM3.low hk.len).dep hlen)).map fun _ r=>⟨r.1.w,r.1.h,r.1.paths,r.1.colors,r.2,r.1.dash,r.1.frm,r.1.to⟩) hk3.mp hk3.md⟩⟩
    ·have hfl:=flatten_len (RowOf.all hcs hel)
     rw[hcs] at hfl
     have db0:decide (bo<H.length)=false:=df (by have:=hk.len;omega)
     have hsm:(l.length+1)*56 - 140737488355328=0:=Nat.sub_eq_zero_of_le (Nat.le_trans (Nat.mul_le_mul_right 56 (show l.length+1≤11 by have:=hl.len;omega)) (by decide))
     have hsm2:l.length+1 - 140737488355328=0:=Nat.sub_eq_zero_of_le (Nat.le_trans (show l.length+1≤11 by have:=hl.len;omega) (by decide))
     have hT3:=(hT.bo hbo (Olx.set1 bo K2 [⟨kyC ⟨60,nn,0,ez00⟩,0,true⟩] ⟨cs.flatten++kyC ⟨60,nn,0,ez00⟩,go+1,true⟩) (by simp))
     have hM3:=MkRow.next (E:=KyE) (n0:=K.length) (K:=K2) (J:=K2.set bo ⟨cs.flatten++kyC ⟨60,nn,0,ez00⟩,go+1,true⟩++[⟨kyC ⟨60,nn,0,ez00⟩,0,true⟩]) (g':=go+1) (x:=⟨60,nn,0,ez00⟩) (c:=kyC ⟨60,nn,0,ez00⟩) hbo hcs hel (Olx.set1 _ _ _ _) (fun J _=>rfl) rfl (old_sget hb _ _)
     have hk3:=hk.trans hT3
     have f1:∀ P L,(K2.set bo P++L)[H.length+1]?=K2[H.length+1]?:=fun P L=>by rw[old_get (by rw[List.getElem?_set_ne (by have:=hk.len;omega)];exact hk2.c) L,hk2.c]
     (refine sg (et hs.t0 (et hs.t2 (et hs.t3 (et f1 (et hk2.c (et (old_get hb) (et (old_set hb) (et hfl (et hsm (et hsm2 (et db0 (et dtb (et kd (et kd0 kdh)))))))))))))) ?_;try exact⟨⟩)
     exact⟨{ s with width:=l++[(⟨60,nn,0,ez00⟩:Ky)] },⟨⟨hB.form,hB.rule,hB.paint,hB.colors,hkb,hB.frm,hB.to,hB.cap,hB.dash⟩,hd⟩,⟨snoc (snocF hs.d hW htb),by(refine sg hs.t0 ?_;try exact⟨⟩),by(refine sg hs.t2 ?_;try exact⟨⟩),by(refine sg hs.t3 ?_;try exact⟨⟩),_,_,_,_,_,_,_,_,hk3.put (s':={ s with width:=l++[(⟨60,nn,0,ez00⟩:Ky)] }) ((hk3.r.and ((hM3.low hk.len).dep hlen)).map fun _ r=>⟨r.1.w,r.1.h,r.1.paths,r.1.colors,r.2,r.1.dash,r.1.frm,r.1.to⟩) hk3.mp hk3.md⟩⟩
   clear hs
   rintro T K D ⟨s,⟨hB,hd⟩,hs⟩
   refine xcut (fun T K D=>∃ s,(ShB s∧s.dash=[])∧ShW H tb g lv ls s T K D) ?_ ?_
   ·obtain⟨vw,vh,vp,vc,vd,vda,vf,vt,hk⟩:=hs.k
    (refine sg (et hs.t0 (et hs.t2 (et hs.t3 hk.c))) ?_;try exact⟨⟩)
    refine(kcolor_ _ hk.tp.tape).x ?_
    rintro v H1 W1 ⟨⟨p,a1⟩,⟨_,a0,a2⟩,rfl,rfl,rfl⟩
    have hk:=hk.step (a:=a1) a0 a2
    generalize K.set tb (tblk lv g a1)=K1 at *
    (refine sg (et hs.t0 (et hs.t2 (et hs.t3 (et hk.c (et dtb kdh))))) ?_;try exact⟨⟩)
    exact⟨{ s with line:=p },⟨⟨hB.form,hB.rule,hB.paint,hB.colors,hB.width,hB.frm,hB.to,hB.cap,hB.dash⟩,hd⟩,⟨snoc hs.d,by(refine sg hs.t0 ?_;try exact⟨⟩),by(refine sg hs.t2 ?_;try exact⟨⟩),by(refine sg hs.t3 ?_;try exact⟨⟩),_,_,_,_,_,_,_,_,hk.put (s':={ s with line:=p }) (hk.r.map fun _ r=>⟨r.w,r.h,r.paths,r.colors,r.width,r.dash,r.frm,r.to⟩) hk.mp hk.md⟩⟩
   clear hs
   rintro T K D ⟨s,⟨hB,hd⟩,hs⟩
   refine xcut (fun T K D=>∃ s,(ShB s∧s.dash=[])∧ShW H tb g lv ls s T K D) ?_ ?_
   ·obtain⟨vw,vh,vp,vc,vd,vda,vf,vt,hk⟩:=hs.k
    (refine sg (et hs.t0 (et hs.t2 (et hs.t3 hk.c))) ?_;try exact⟨⟩)
    refine(next_ 2 (by omega) _ hk.tp.tape).x ?_
    rintro v H1 W1 ⟨⟨x,a1⟩,⟨x0,x1,a0,a2⟩,rfl,rfl,rfl⟩
    have x0:0≤x:=x0
    have x1:x<2:=x1
    have hk:=hk.step (a:=a1) a0 a2
    generalize K.set tb (tblk lv g a1)=K1 at *
    (refine sg (et hs.t0 (et hs.t2 (et hs.t3 (et hk.c (et dtb kdh))))) ?_;try exact⟨⟩)
    exact⟨{ s with cap:=x },⟨⟨hB.form,hB.rule,hB.paint,hB.colors,hB.width,hB.frm,hB.to,two_ x0 x1,hB.dash⟩,hd⟩,⟨snoc hs.d,by(refine sg hs.t0 ?_;try exact⟨⟩),by(refine sg hs.t2 ?_;try exact⟨⟩),by(refine sg hs.t3 ?_;try exact⟨⟩),_,_,_,_,_,_,_,_,hk.put (s':={ s with cap:=x }) (hk.r.map fun _ r=>⟨r.w,r.h,r.paths,r.colors,r.width,r.dash,r.frm,r.to⟩) hk.mp hk.md⟩⟩
   clear hs
   rintro T K D ⟨s,⟨hB,hd⟩,hs⟩
   refine xcut (fun T K D=>∃ s,ShB s∧ShW H tb g lv ls s T K D) ?_ ?_
   ·obtain⟨vw,vh,vp,vc,vd,vda,vf,vt,hk⟩:=hs.k
    (refine sg (et hs.t0 (et hs.t2 (et hs.t3 hk.c))) ?_;try exact⟨⟩)
    refine(next_ 4 (by omega) _ hk.tp.tape).x ?_
    rintro v H1 W1 ⟨⟨x,a1⟩,⟨x0,x1,a0,a2⟩,rfl,rfl,rfl⟩
    have x0:0≤x:=x0
    have x1:x<4:=x1
    have hk:=hk.step (a:=a1) a0 a2
    generalize K.set tb (tblk lv g a1)=K1 at *
    (refine sg (et hs.t0 (et hs.t2 (et hs.t3 (et hk.c dtb)))) ?_;try exact⟨⟩)
    refine(next_ 2 (by omega) _ hk.tp.tape).x ?_
    rintro v H1 W1 ⟨⟨y,b1⟩,⟨y0,y1,b0,b2⟩,rfl,rfl,rfl⟩
    have y0:0≤y:=y0
    have y1:y<2:=y1
    have hk:=hk.step (a:=b1) b0 b2
    generalize K1.set tb (tblk lv g b1)=K2 at *
    obtain⟨nn,hn,w9⟩:∃ n:Nat,n≤3∧IntKind.i64.wrap (x*y)=(n:Int):=by
     obtain rfl|rfl:y=0∨y=1:=by omega
     ·exact⟨0,by omega,by rw[Int.mul_zero];rfl⟩
     ·exact⟨x.toNat,by omega,by rw[Int.mul_one,wi (by omega) (by omega)];omega⟩
    (refine sg (et hs.t0 (et hs.t2 (et hs.t3 (et dtb w9)))) ?_;try exact⟨⟩)
    have hk9:=hk
    have hL:=hk.loop
    have hs0:s = { s with dash:=[] }:=by rw[← hd]
    have hm:=hk.md hd
    refine keep (fun k T K D=>T 9=.int .i64 (k:Int)∧SameW D [tb]∧T 0=ap tb 0 g∧T 2=ap H.length 0 0∧T 3=ap (H.length+1) 0 0∧∃ l vda,dashB l=true∧l.length+k=nn∧(l=[]→vda=.slice none 0 0)∧MkRow 1 InE K2.length K vda l∧ShL H K2 K tb g lv ls { s with dash:=l } vw vh vp vc vd vda vf vt) nn ⟨by(refine sg trivial ?_;try exact⟨⟩),snoc (snoc hs.d),by(refine sg hs.t0 ?_;try exact⟨⟩),by(refine sg hs.t2 ?_;try exact⟨⟩),by(refine sg hs.t3 ?_;try exact⟨⟩),[],_,rfl,by simp,fun _=>rfl,.inl ⟨rfl,rfl⟩,hm ▸ (show ShL H K2 K2 tb g lv ls { s with dash:=[] } vw vh vp vc vd vda vf vt from hs0 ▸ hL)⟩ ?_
    clear hs hk w9 hL
    rintro k T K D ⟨t9,hD,t0,t2,t3,l,vda',hdl,hlk,hz,hM,hL⟩
    by_cases hk0:0<k
    ·have w1:IntKind.i64.wrap ((k:Int) - 1)=((k - 1:Nat):Int):=by rw[wi (by omega) (by omega)];omega
     (refine sg (et t0 (et t2 (et t3 (et t9 (et hL.c (dt (show (0:Int)<(k:Int) by omega))))))) ?_;try exact⟨⟩)
     refine drawnU [(0,3),(1,3)] (by decide +kernel) ?_
     (refine sg (et t0 (et t2 (et t3 (et t9 hL.c)))) ?_;try exact⟨⟩)
     refine(number_ 1 5 (by omega) (by omega) (by omega) _ hL.tp.tape).x ?_
     rintro v H2 W2 ⟨⟨nm,c1⟩,⟨n0,n1,c0,c2⟩,rfl,rfl,rfl⟩
     have n0:1*65536≤nm:=n0
     have n1:nm<5*65536+65536:=n1
     have hM:=hM.olt (Olx.set0 tb K (tblk lv g c1)) (by have:=hk9.tp.lt;have:=hk9.len;omega)
     have hL:=hL.step (a:=c1) c0 c2
     generalize K.set tb (tblk lv g c1)=K3 at *
     have kd:∀ n,decide (K3.length+n<H.length)=false:=fun n=>df (by have:=hL.len;have:=hL.len0;omega)
     have kd0:decide (K3.length<H.length)=false:=df (by have:=hL.len;have:=hL.len0;omega)
     have hdl':=dash_snoc (n:=nm) hdl (by omega) (by omega) (by omega)
     rcases hM with ⟨rfl,rfl⟩|⟨bo,go,cs,hbo,rfl,hb,hcs,hel⟩
     ·have hL3:=hL.app [⟨[.int .i64 nm],0,true⟩,⟨[.int .i64 nm],0,true⟩]
      have hM3:MkRow 1 InE K2.length (K3++[⟨[.int .i64 nm],0,true⟩,⟨[.int .i64 nm],0,true⟩]) (sl (K3.length+1) 0 0 1 1) [nm]:=
       MkRow.first (c:=[.int .i64 nm]) (fun J _=>rfl) rfl (by rw[hget_app];rfl) (by have:=hL.len0;omega)
      have hL4:=hL3.put { s with dash:=[nm] } vw vh vp vc vd (sl (K3.length+1) 0 0 1 1) vf vt
      have hM4:=hM3.olt (Olx.set0 (H.length+1) _ ⟨shC { s with dash:=[nm] } vw vh vp vc vd (sl (K3.length+1) 0 0 1 1) vf vt,0,true⟩) (by have:=hk9.len;omega)
      (refine sg (et t0 (et t2 (et t3 (et t9 (et hL.c (et (old_get hL.c) (et dtb (et kd (et kd0 (et kdh w1)))))))))) ?_;try exact⟨⟩)
      exact⟨hne1,k - 1,by omega,rfl,snoc hD,[nm],_,hdl',by simp at hlk ⊢;omega,(fun h=>by simp at h),hM4,hL4⟩
     ·have hfl:=flatten_len (RowOf.all hcs hel)
      rw[hcs] at hfl
      have db0:decide (bo<H.length)=false:=df (by have:=hk9.len;omega)
      have hsm:(l.length+1)*8 - 140737488355328=0:=Nat.sub_eq_zero_of_le (Nat.le_trans (Nat.mul_le_mul_right 8 (show l.length+1≤11 by omega)) (by decide))
      have hsm2:l.length+1 - 140737488355328=0:=Nat.sub_eq_zero_of_le (Nat.le_trans (show l.length+1≤11 by omega) (by decide))
      have hL3:=hL.bo hbo (Olx.set1 bo K3 [⟨[.int .i64 nm],0,true⟩] ⟨cs.flatten++[.int .i64 nm],go+1,true⟩) (by simp)
      have hM3:=MkRow.next (E:=InE) (n0:=K2.length) (K:=K3) (J:=K3.set bo ⟨cs.flatten++[.int .i64 nm],go+1,true⟩++[⟨[.int .i64 nm],0,true⟩]) (g':=go+1) (x:=nm) (c:=[.int .i64 nm]) hbo hcs hel (Olx.set1 _ _ _ _) (fun J _=>rfl) rfl (old_sget hb _ _)
      have hL4:=hL3.put { s with dash:=l++[nm] } vw vh vp vc vd (sl bo 0 (go+1) (l.length+1) 1) vf vt
      have hM4:=hM3.olt (Olx.set0 (H.length+1) _ ⟨shC { s with dash:=l++[nm] } vw vh vp vc vd (sl bo 0 (go+1) (l.length+1) 1) vf vt,0,true⟩) (by have:=hk9.len;omega)
      have f1:∀ P L,(K3.set bo P++L)[H.length+1]?=K3[H.length+1]?:=fun P L=>by rw[old_get (by rw[List.getElem?_set_ne (by have:=hk9.len;omega)];exact hL.c) L,hL.c]
      (refine sg (et t0 (et t2 (et t3 (et t9 (et f1 (et hL.c (et (old_get hb) (et (old_set hb) (et hfl (et hsm (et hsm2 (et db0 (et dtb (et kd (et kd0 (et kdh w1)))))))))))))))) ?_;try exact⟨⟩)
      exact⟨hne1,k - 1,by omega,rfl,snoc hD,l++[nm],_,hdl',by rw[List.length_append];show l.length+1+_=nn;omega,(fun h=>by simp at h),hM4,hL4⟩
    ·have hk0:k=0:=by omega
     subst hk0
     (refine sg (et t0 (et t2 (et t3 (et t9 (df (show ¬ (0:Int)<((0:Nat):Int) by omega)))))) ?_;try exact⟨⟩)
     refine⟨{ s with dash:=l },⟨hB.form,hB.rule,hB.paint,hB.colors,hB.width,hB.frm,hB.to,hB.cap,hdl⟩,⟨hD,by(refine sg t0 ?_;try exact⟨⟩),by(refine sg t2 ?_;try exact⟨⟩),by(refine sg t3 ?_;try exact⟨⟩),_,_,_,_,_,_,_,_,⟨hL.tp,Nat.le_trans hL.len hL.len0,hL.z,hL.c,?_,hk9.mp,hz⟩⟩⟩
     exact fun J hJ=>by
      have r:=hk9.r J fun c k hc e=>hJ c k hc (hL.rel c k hc e)
      have r2:=(hM.low hL.len).dep (by omega) J hJ
      exact⟨r.w,r.h,r.paths,r.colors,r.width,r2,r.frm,r.to⟩
   clear hs
   rintro T K D ⟨s,hB,hs⟩
   obtain⟨vw,vh,vp,vc,vd,vda,vf,vt,hk⟩:=hs.k
   (refine sg (et hs.t0 (et hs.t2 (et hs.t3 hk.c))) ?_;try exact⟨⟩)
   refine(next_ 2 (by omega) _ hk.tp.tape).x ?_
   rintro v H1 W1 ⟨⟨x,a1⟩,⟨x0,x1,a0,a2⟩,rfl,rfl,rfl⟩
   have x0:0≤x:=x0
   have x1:x<2:=x1
   have hk:=hk.step (a:=a1) a0 a2
   generalize K.set tb (tblk lv g a1)=K1 at *
   by_cases hx:x=0
   ·have hk0:=hk.len
    (refine sg (et hs.t0 (et hs.t2 (et hs.t3 (et hk.c (et (bt hx) dtb))))) ?_;try exact⟨⟩)
    refine(kkeys_ 0 1 (by omega) (by omega) (by omega) _ hk.tp.tape).x ?_
    rintro v V1 W1 ⟨hW1,hT1,l1,hM1,hl1⟩
    obtain⟨va1,ve1,rfl⟩:=hM1.form
    have hk:=hk.trans hT1
    (refine sg (et hs.t0 (et hs.t2 (et hs.t3 (et hk.c dtb)))) ?_;try exact⟨⟩)
    refine(kkeys_ 0 1 (by omega) (by omega) (by omega) _ hk.tp.tape).x ?_
    rintro v V2 W2 ⟨hW2,hT2,l2,hM2,hl2⟩
    obtain⟨va2,ve2,rfl⟩:=hM2.form
    have hk:=hk.trans hT2
    have hM1:=(hM1.olt hT2.old (by have:=hk.tp.lt;have:=hT1.base.lt;omega)).low (n1:=H.length+2) (by have:=hT1.len;have:=hk0;omega)
    have hM2:=hM2.low (n1:=H.length+2) (by have:=hT1.len;have:=hk0;omega)
    have hr:=(hk.r.and (hM1.dep (by have:=hl1.len;omega))).and (hM2.dep (by have:=hl2.len;omega))
    have g9:∀ X,(V2.set (H.length+1) X)[H.length+1]?=some X:=fun X=>List.getElem?_set_self (by have:=hk.len;omega)
    have hk3:=hk.put (s':={ s with frm:=l1 }) (hr.map fun _ r=>⟨r.1.1.w,r.1.1.h,r.1.1.paths,r.1.1.colors,r.1.1.width,r.1.1.dash,r.1.2,r.1.1.to⟩) hk.mp hk.md
    have hr':=fun X=>Dep.olx hr (Olx.set0 (H.length+1) V2 X) (by omega)
    have hk4:=hk3.put (s':={ s with frm:=l1,to:=l2 }) ((hr' _).map fun _ r=>⟨r.1.1.w,r.1.1.h,r.1.1.paths,r.1.1.colors,r.1.1.width,r.1.1.dash,r.1.2,r.2⟩) hk3.mp hk3.md
    (refine sg (et hs.t0 (et hs.t2 (et hs.t3 (et hk.c (et g9 (et dtb kdh)))))) ?_;try exact⟨⟩)
    exact⟨{ s with frm:=l1,to:=l2 },⟨hB.form,hB.rule,hB.paint,hB.colors,hB.width,hl1.keys (by omega),hl2.keys (by omega),hB.cap,hB.dash⟩,⟨snocF (snocF (snoc hs.d) hW1 htb) hW2 htb,by(refine sg hs.t0 ?_;try exact⟨⟩),by(refine sg hs.t2 ?_;try exact⟨⟩),by(refine sg hs.t3 ?_;try exact⟨⟩),_,_,_,_,_,_,_,_,hk4⟩⟩
   ·(refine sg (et hs.t0 (et hs.t2 (et hs.t3 (et hk.c (et (bf hx) (et dtb kdh)))))) ?_;try exact⟨⟩)
    exact⟨s,hB,⟨snoc hs.d,by(refine sg hs.t0 ?_;try exact⟨⟩),by(refine sg hs.t2 ?_;try exact⟨⟩),by(refine sg hs.t3 ?_;try exact⟨⟩),_,_,_,_,_,_,_,_,hk⟩⟩
  ·have hF:s.stroke=false:=by simpa using hF
   rw[hF] at t114
   rw[wcode_cond_f (show ev T (.tmp 114)=some (.bool false) by show some (T 114)=_;rw[t114])]
   (refine sg (et hs.t0 (et hs.t2 hs.t3)) ?_;try exact⟨⟩)
   exact⟨s,hB,hs⟩
 clear hs
 rintro T K D ⟨s,hB,hs⟩
 obtain⟨vw,vh,vp,vc,vd,vda,vf,vt,hk⟩:=hs.k
 have g9:∀ X,(K.set H.length X)[H.length]?=some X:=fun X=>List.getElem?_set_self (by have:=hk.len;omega)
 (refine sg (et hs.t0 (et hs.t2 (et hs.t3 (et hk.c (et hk.z g9))))) ?_;try exact⟨⟩)
 exact⟨hs.d,hk.tp.bo (Nat.le_refl _) (Olx.set0 _ _ _) (by simp),s,vw,vh,vp,vc,vd,vda,vf,vt,rfl,(hk.r.olx (Olx.set0 _ _ _) (by omega)).low (by omega),hB.all⟩
end Go.Proofs.YthhbglkokpablaaGreat
