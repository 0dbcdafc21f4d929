/- Merged texts: DocK. -/
import Derived.Test.YthhbglkokpablaaGreatVA
/- Documents of a tape: the walk of layers. -/
namespace Go.Proofs.YthhbglkokpablaaGreat
open Go Go.RowKit E
attribute [local irreducible] XRun XOps XCode XCal XLoop XQ SemCall
set_option linter.unusedSimpArgs false
set_option linter.unusedVariables false
/-- The values of a layer's rows. -/
structure Lv where
 v0:Value
 v1:Value
 v2:Value
 v3:Value
 v4:Value
 v5:Value
 v6:Value
 v7:Value
 v8:Value
 pm:Value
 vw:Value
 vh:Value
 vp:Value
 vc:Value
 vd:Value
 vda:Value
 vf:Value
 vt:Value
abbrev lvC (l:Ly) (x:Lv):List Value:=lyC l x.v0 x.v1 x.v2 x.v3 x.v4 x.v5 x.v6 x.v7 x.v8 x.pm (shC l.shape x.vw x.vh x.vp x.vc x.vd x.vda x.vf x.vt)
def LvR (J:AH) (l:Ly) (x:Lv):Prop:=LyV J l x.v0 x.v1 x.v2 x.v3 x.v4 x.v5 x.v6 x.v7 x.v8 x.pm∧ShV J l.shape x.vw x.vh x.vp x.vc x.vd x.vda x.vf x.vt
abbrev nl:Value:=.slice none 0 0
def lv0:Lv:=⟨nl,nl,nl,nl,nl,nl,nl,nl,nl,nl,nl,nl,nl,nl,nl,nl,nl,nl⟩
abbrev ly0 (p i o s:Int):Ly:=⟨0,p,0,0,i,o,s,[],[],[],[],[],[],[],[],[],(false,[]),sh00⟩
/-- A layer on its way, in the block behind H. -/
structure LyK (H K:AH) (tb g:Nat) (lv:Value) (ls:List Int) (l:Ly) (x:Lv):Prop where
 tp:TpS H K tb g lv ls
 len:H.length+2≤K.length
 z:K[H.length]?=some ⟨lvC (ly0 0 0 0 0) lv0,0,true⟩
 c:K[H.length+1]?=some ⟨lvC l x,0,true⟩
 r:Dep (H.length+2) K fun J=>LvR J l x
section
variable {H K J:AH} {tb g:Nat} {lv:Value} {ls:List Int} {l:Ly} {x:Lv}
theorem LyK.trans (h:LyK H K tb g lv ls l x) (t:TpS K J tb g lv ls):LyK H J tb g lv ls l x:=by
 have hl:=h.tp.lt
 exact⟨h.tp.trans t,Nat.le_trans h.len t.len,t.old _ _ (by omega) h.z,t.old _ _ (by omega) h.c,h.r.olx t.old (by omega)⟩
theorem LyK.step (h:LyK H K tb g lv ls l x) {a:Int} (h1:0≤a) (h2:a≤ls.length):LyK H (K.set tb (tblk lv g a)) tb g lv ls l x:=
 h.trans ((TpS.refl h.tp.tape).step h1 h2)
theorem LyK.app (h:LyK H K tb g lv ls l x) (L:AH):LyK H (K++L) tb g lv ls l x:=
 h.trans ((TpS.refl h.tp.tape).app L)
theorem LyK.put (h:LyK H K tb g lv ls l x) (l':Ly) (x':Lv) (r:Dep (H.length+2) K fun J=>LvR J l' x'):LyK H (K.set (H.length+1) ⟨lvC l' x',0,true⟩) tb g lv ls l' x':=by
 have hl:=h.len
 exact⟨h.tp.bo (by omega) (Olx.set0 _ _ _) (by simp),by simpa using hl,by rw[List.getElem?_set_ne (by omega)];exact h.z,List.getElem?_set_self (by omega),r.olx (Olx.set0 _ _ _) (by omega)⟩
end
/-- A layer's walk between two steps. -/
structure LyW (H:AH) (tb g:Nat) (lv:Value) (ls:List Int) (k c m:Int) (ahead:Bool) (l:Ly) (T:Env) (K:AH) (D:List Nat):Prop where
 d:SameW D [tb]
 t0:T 0=ap tb 0 g
 t1:T 1=.int .i64 k
 t3:T 3=.int .i64 c
 t4:T 4=.int .i64 m
 t5:T 5=.bool ahead
 t12:T 12=ap H.length 0 0
 t13:T 13=ap (H.length+1) 0 0
 k:∃ x,LyK H K tb g lv ls l x
/-- What is right of a layer, part by part. -/
structure LyB (k c m:Int) (ahead:Bool) (l:Ly):Prop where
 kd:(l.kind=0∧l.comp=0∧l.remap=[]∧shapeB l.shape=true)∨(l.kind=1∧c<l.comp∧l.comp<m∧keysB l.remap=true∧l.shape=sh00)
 mt:0≤l.matte∧l.matte≤2∧(ahead=true→l.matte=0)
 tm : -2≤l.in_∧l.in_≤3∧l.in_<l.out∧l.out≤30∧-2≤l.start∧l.start≤2
 ma:maskB l.mask=true
 x:keysB l.x=true
 y:keysB l.y=true
 ax:keysB l.ax=true
 ay:keysB l.ay=true
 sx:keysB l.sx=true
 sy:keysB l.sy=true
 tu:keysB l.turn=true
 op:keysB l.opac=true
 pa : -1≤l.parent∧l.parent<k
theorem LyB.all {k c m:Int} {ahead:Bool} {l:Ly} (h:LyB k c m ahead l):layerB l=true:=by
 unfold layerB Ly.keys
 have hk:(l.kind==0||l.kind==1)=true:=by
  rcases h.kd with ⟨e,_⟩|⟨e,_⟩ <;> rw[e] <;> rfl
 have hr:keysB l.remap=true:=by
  rcases h.kd with ⟨_,_,e,_⟩|⟨_,_,_,e,_⟩
  ·rw[e];rfl
  ·exact e
 have hz:(if l.kind=1 then bareB l.shape else (l.comp==0)&&decide ((l.remap.length:Int)=0)&&shapeB l.shape)=true:=by
  rcases h.kd with ⟨e,e1,e2,e3⟩|⟨e,_,_,_,e1⟩
  ·rw[if_neg (by omega),e1,e2,e3];rfl
  ·rw[if_pos e,e1];decide
 obtain⟨a1,a2,a3,a4,a5,a6⟩:=h.tm
 rw[hk,hz,h.ma,dt h.mt.1,dt h.mt.2.1,tick_sm (by omega),tick_sm (by omega),tick_sm (by omega),dt a3]
 simp only[List.all_cons,List.all_nil,h.x,h.y,h.ax,h.ay,h.sx,h.sy,h.tu,h.op,hr];rfl
theorem keys2 {a b va vb:Int} (h0 : -1073741824≤a) (h1:a<b) (h2:b≤1073741824) (h3 : -67108864≤va∧va≤67108864) (h4 : -67108864≤vb∧vb≤67108864):keysB [⟨a,va,1,ez00⟩,⟨b,vb,0,ez00⟩]=true:=by
 unfold keysB
 simp only[keysGo,kstB]
 rw[tick_sm ⟨h0,by omega⟩,tick_sm ⟨by omega,h2⟩,dt h1,near_sm h3,near_sm h4];rfl
theorem mask_ {n:Nat} {ps:List Pt} (hp:ps.length=3*n+1) (hB:∀ p∈ps,Bp p) (h1:1≤n) (h2:n≤32):maskB (true,ps)=true:=by
 unfold maskB
 rw[right_of true hp hB h1 h2];simp
set_option maxHeartbeats 8000000 in
theorem klayer_ (k n c m:Int) (ahead:Bool) (hk0:0≤k) (hk1:k≤100) (hc0:0≤c) (hc1:c<m) (hm100:m≤100) (H:AH) {tb g:Nat} {lv:Value} {ls:List Int} (h:TapeAt H tb g lv ls) :
  Cal Tryz.prog 21 [ap tb 0 g,.int .i64 k,.int .i64 n,.int .i64 c,.int .i64 m,.bool ahead] H fun v H' W=>SameW W [tb]∧TpS H H' tb g lv ls∧∃ l x,v=.agg (lvC l x).toArray∧Dep H.length H' (fun J=>LvR J l x)∧LyB k c m ahead l:=by
 have htb:=h.lt
 have dtb:decide (tb<H.length)=true:=dt htb
 have hne:¬ tb=H.length:=by omega
 have hne1:¬ tb=H.length+1:=by omega
 have kdh:decide (H.length+1<H.length)=false:=df (by omega)
 refine of_x ?_
 refine XCal.of hm Tryz.func21 rfl (fun xs w=>Tryz.call21 xs w) Tryz.ntmps21 Tryz.results21 rfl ?_
 refine xcut2 (fun T K D=>∃ i s:Int,(-2≤i∧i≤3∧-2≤s∧s≤2)∧LyW H tb g lv ls k c m ahead (ly0 (-1) i 0 s) T K D) ?_ ?_
 ·(refine sg trivial ?_;try exact⟨⟩)
  refine(next_ 6 (by omega) _ (h.app _)).x ?_
  rintro v H1 W1 ⟨⟨x,a1⟩,⟨x0,x1,a0,a2⟩,rfl,rfl,rfl⟩
  have x0:0≤x:=x0
  have x1:x<6:=x1
  rw[old_set (h.2).choose_spec.2.2]
  have hT:=(TpS.refl h).step (a:=a1) a0 a2
  have hl:H.length=(H.set tb (tblk lv g a1)).length:=by simp
  generalize H.set tb (tblk lv g a1)=K1 at *
  have w1:IntKind.i64.wrap (x - 2)=x - 2:=wi (by omega) (by omega)
  (refine sg (et dtb w1) ?_;try exact⟨⟩)
  refine(next_ 5 (by omega) _ (hT.tape.app _)).x ?_
  rintro v H1 W1 ⟨⟨y,b1⟩,⟨y0,y1,b0,b2⟩,rfl,rfl,rfl⟩
  have y0:0≤y:=y0
  have y1:y<5:=y1
  rw[old_set (hT.tape.2).choose_spec.2.2]
  have hT:=hT.step (a:=b1) b0 b2
  have hl2:K1.length=(K1.set tb (tblk lv g b1)).length:=by simp
  generalize K1.set tb (tblk lv g b1)=K2 at *
  have w2:IntKind.i64.wrap (y - 2)=y - 2:=wi (by omega) (by omega)
  have hl3:K2.length=H.length:=by omega
  (refine sg (et dtb w2) ?_;try exact⟨⟩)
  refine⟨x - 2,y - 2,⟨by omega,by omega,by omega,by omega⟩,⟨fun b=>by simp <;> omega,by(refine sg trivial ?_;try exact⟨⟩),by(refine sg trivial ?_;try exact⟨⟩),by(refine sg trivial ?_;try exact⟨⟩),by(refine sg trivial ?_;try exact⟨⟩),by(refine sg trivial ?_;try exact⟨⟩),by(refine sg trivial ?_;try exact⟨⟩),by(refine sg hl3 ?_;try exact⟨⟩),lv0,⟨hT.app _,by simp;omega,?_,?_,fun J _=>⟨⟨RowOf.none,RowOf.none,RowOf.none,RowOf.none,RowOf.none,RowOf.none,RowOf.none,RowOf.none,RowOf.none,.inl ⟨rfl,.inr rfl⟩⟩,⟨RowOf.none,RowOf.none,RowOf.none,RowOf.none,RowOf.none,RowOf.none,RowOf.none,RowOf.none⟩⟩⟩⟩⟩
  ·rw[← hl3,hget_app0];rfl
  ·rw[← hl3,hget_app];rfl
 rintro T K D ⟨i,s,⟨i0,i1,s0,s1⟩,hs⟩
 refine xcut (fun T K D=>∃ l,(LyB k c m ahead l∧l.kind=0∧l.comp=0∧l.remap=[]∧l.shape=sh00)∧LyW H tb g lv ls k c m ahead l T K D) ?_ ?_
 ·obtain⟨vs,hk⟩:=hs.k
  have w1:IntKind.i64.wrap (i+1)=i+1:=wi (by omega) (by omega)
  refine drawnU [(0,4),(1,4),(2,4)] (by decide +kernel) ?_
  (refine sg (et hs.t0 (et hs.t1 (et hs.t3 (et hs.t4 (et hs.t5 (et hs.t12 (et hs.t13 (et hk.c w1)))))))) ?_;try exact⟨⟩)
  refine(next_ 24 (by omega) _ hk.tp.tape).x ?_
  rintro v H1 W1 ⟨⟨x,a1⟩,⟨x0,x1,a0,a2⟩,rfl,rfl,rfl⟩
  have x0:0≤x:=x0
  have x1:x<24:=x1
  have hk:=hk.step (a:=a1) a0 a2
  generalize K.set tb (tblk lv g a1)=K1 at *
  have w2:IntKind.i64.wrap (i+1+x)=i+1+x:=wi (by omega) (by omega)
  (refine sg (et hs.t0 (et hs.t1 (et hs.t3 (et hs.t4 (et hs.t5 (et hs.t12 (et hs.t13 (et hk.c (et dtb (et kdh (et w2 w1))))))))))) ?_;try exact⟨⟩)
  exact⟨hne1,ly0 (-1) i (i+1+x) s,⟨⟨.inl ⟨rfl,rfl,rfl,show shapeB sh00=true by decide⟩,⟨by show (0:Int)≤0;omega,by show (0:Int)≤2;omega,fun _=>rfl⟩,⟨by show -2≤i;omega,by show i≤3;omega,by show i<i+1+x;omega,by show i+1+x≤30;omega,by show -2≤s;omega,by show s≤2;omega⟩,rfl,rfl,rfl,rfl,rfl,rfl,rfl,rfl,rfl,⟨by show (-1:Int)≤-1;omega,by show (-1:Int)<k;omega⟩⟩,rfl,rfl,rfl,rfl⟩,⟨snoc hs.d,by(refine sg hs.t0 ?_;try exact⟨⟩),by(refine sg hs.t1 ?_;try exact⟨⟩),by(refine sg hs.t3 ?_;try exact⟨⟩),by(refine sg hs.t4 ?_;try exact⟨⟩),by(refine sg hs.t5 ?_;try exact⟨⟩),by(refine sg hs.t12 ?_;try exact⟨⟩),by(refine sg hs.t13 ?_;try exact⟨⟩),_,hk.put (ly0 (-1) i (i+1+x) s) vs (hk.r.map fun _ r=>⟨⟨r.1.x,r.1.y,r.1.ax,r.1.ay,r.1.sx,r.1.sy,r.1.turn,r.1.opac,r.1.remap,r.1.mask⟩,r.2⟩)⟩⟩
 clear hs
 rintro T K D ⟨l,⟨hB,z1,z2,z3,z4⟩,hs⟩
 refine xcut (fun T K D=>∃ l,(LyB k c m ahead l∧l.kind=0∧l.comp=0∧l.remap=[]∧l.shape=sh00)∧LyW H tb g lv ls k c m ahead l T K D) ?_ ?_
 ·obtain⟨vs,hk⟩:=hs.k
  (refine sg (et hs.t0 (et hs.t1 (et hs.t3 (et hs.t4 (et hs.t5 (et hs.t12 (et hs.t13 hk.c))))))) ?_;try exact⟨⟩)
  refine(next_ 3 (by omega) _ hk.tp.tape).x ?_
  rintro v H1 W1 ⟨⟨x,a1⟩,⟨x0,x1,a0,a2⟩,rfl,rfl,rfl⟩
  have x0:0≤x:=x0
  have x1:x<3:=x1
  have hk:=hk.step (a:=a1) a0 a2
  generalize K.set tb (tblk lv g a1)=K1 at *
  by_cases hx:x=0
  ·by_cases hkk:0<k
   ·(refine sg (et hs.t0 (et hs.t1 (et hs.t3 (et hs.t4 (et hs.t5 (et hs.t12 (et hs.t13 (et hk.c (et (bt hx) (et (dt hkk) (et dtb kdh))))))))))) ?_;try exact⟨⟩)
    refine(next_ k ⟨hkk,by omega⟩ _ hk.tp.tape).x ?_
    rintro v H1 W1 ⟨⟨p,b1⟩,⟨p0,p1,b0,b2⟩,rfl,rfl,rfl⟩
    have p0:0≤p:=p0
    have p1:p<k:=p1
    have hk:=hk.step (a:=b1) b0 b2
    generalize K1.set tb (tblk lv g b1)=K2 at *
    (refine sg (et hs.t0 (et hs.t1 (et hs.t3 (et hs.t4 (et hs.t5 (et hs.t12 (et hs.t13 (et hk.c (et dtb kdh))))))))) ?_;try exact⟨⟩)
    exact⟨{ l with parent:=p },⟨⟨hB.kd,hB.mt,hB.tm,hB.ma,hB.x,hB.y,hB.ax,hB.ay,hB.sx,hB.sy,hB.tu,hB.op,⟨by show -1≤p;omega,p1⟩⟩,z1,z2,z3,z4⟩,⟨snoc (snoc hs.d),by(refine sg hs.t0 ?_;try exact⟨⟩),by(refine sg hs.t1 ?_;try exact⟨⟩),by(refine sg hs.t3 ?_;try exact⟨⟩),by(refine sg hs.t4 ?_;try exact⟨⟩),by(refine sg hs.t5 ?_;try exact⟨⟩),by(refine sg hs.t12 ?_;try exact⟨⟩),by(refine sg hs.t13 ?_;try exact⟨⟩),_,hk.put { l with parent:=p } vs (hk.r.map fun _ r=>⟨⟨r.1.x,r.1.y,r.1.ax,r.1.ay,r.1.sx,r.1.sy,r.1.turn,r.1.opac,r.1.remap,r.1.mask⟩,r.2⟩)⟩⟩
   ·(refine sg (et hs.t0 (et hs.t1 (et hs.t3 (et hs.t4 (et hs.t5 (et hs.t12 (et hs.t13 (et hk.c (et (bt hx) (et (df hkk) (et dtb kdh))))))))))) ?_;try exact⟨⟩)
    exact⟨l,⟨hB,z1,z2,z3,z4⟩,⟨snoc hs.d,by(refine sg hs.t0 ?_;try exact⟨⟩),by(refine sg hs.t1 ?_;try exact⟨⟩),by(refine sg hs.t3 ?_;try exact⟨⟩),by(refine sg hs.t4 ?_;try exact⟨⟩),by(refine sg hs.t5 ?_;try exact⟨⟩),by(refine sg hs.t12 ?_;try exact⟨⟩),by(refine sg hs.t13 ?_;try exact⟨⟩),_,hk⟩⟩
  ·(refine sg (et hs.t0 (et hs.t1 (et hs.t3 (et hs.t4 (et hs.t5 (et hs.t12 (et hs.t13 (et hk.c (et (bf hx) (et dtb kdh)))))))))) ?_;try exact⟨⟩)
   exact⟨l,⟨hB,z1,z2,z3,z4⟩,⟨snoc hs.d,by(refine sg hs.t0 ?_;try exact⟨⟩),by(refine sg hs.t1 ?_;try exact⟨⟩),by(refine sg hs.t3 ?_;try exact⟨⟩),by(refine sg hs.t4 ?_;try exact⟨⟩),by(refine sg hs.t5 ?_;try exact⟨⟩),by(refine sg hs.t12 ?_;try exact⟨⟩),by(refine sg hs.t13 ?_;try exact⟨⟩),_,hk⟩⟩
 clear hs
 rintro T K D ⟨l,⟨hB,z1,z2,z3,z4⟩,hs⟩
 refine xcut (fun T K D=>∃ l,LyB k c m ahead l∧LyW H tb g lv ls k c m ahead l T K D) ?_ ?_
 ·refine xcut (fun T K D=>∃ q:Bool,T 47=.bool q∧(q=true→c+1<m)∧LyW H tb g lv ls k c m ahead l T K D) ?_ ?_
  ·obtain⟨vs,hk⟩:=hs.k
   have w1:IntKind.i64.wrap (c+1)=c+1:=wi (by omega) (by omega)
   by_cases hcm:c+1<m
   ·(refine sg (et hs.t0 (et hs.t1 (et hs.t3 (et hs.t4 (et hs.t5 (et hs.t12 (et hs.t13 (et hk.c (et w1 (dt hcm)))))))))) ?_;try exact⟨⟩)
    refine(next_ 3 (by omega) _ hk.tp.tape).x ?_
    rintro v H1 W1 ⟨⟨x,a1⟩,⟨x0,x1,a0,a2⟩,rfl,rfl,rfl⟩
    have x0:0≤x:=x0
    have x1:x<3:=x1
    have hk:=hk.step (a:=a1) a0 a2
    generalize K.set tb (tblk lv g a1)=K1 at *
    by_cases hx:x=0
    ·(refine sg (et hs.t0 (et hs.t1 (et hs.t3 (et hs.t4 (et hs.t5 (et hs.t12 (et hs.t13 (et hk.c (et (bt hx) dtb))))))))) ?_;try exact⟨⟩)
     exact⟨true,rfl,fun _=>hcm,⟨snoc hs.d,by(refine sg hs.t0 ?_;try exact⟨⟩),by(refine sg hs.t1 ?_;try exact⟨⟩),by(refine sg hs.t3 ?_;try exact⟨⟩),by(refine sg hs.t4 ?_;try exact⟨⟩),by(refine sg hs.t5 ?_;try exact⟨⟩),by(refine sg hs.t12 ?_;try exact⟨⟩),by(refine sg hs.t13 ?_;try exact⟨⟩),_,hk⟩⟩
    ·(refine sg (et hs.t0 (et hs.t1 (et hs.t3 (et hs.t4 (et hs.t5 (et hs.t12 (et hs.t13 (et hk.c (et (bf hx) dtb))))))))) ?_;try exact⟨⟩)
     exact⟨false,rfl,fun _=>hcm,⟨snoc hs.d,by(refine sg hs.t0 ?_;try exact⟨⟩),by(refine sg hs.t1 ?_;try exact⟨⟩),by(refine sg hs.t3 ?_;try exact⟨⟩),by(refine sg hs.t4 ?_;try exact⟨⟩),by(refine sg hs.t5 ?_;try exact⟨⟩),by(refine sg hs.t12 ?_;try exact⟨⟩),by(refine sg hs.t13 ?_;try exact⟨⟩),_,hk⟩⟩
   ·(refine sg (et hs.t0 (et hs.t1 (et hs.t3 (et hs.t4 (et hs.t5 (et hs.t12 (et hs.t13 (et hk.c (et w1 (df hcm)))))))))) ?_;try exact⟨⟩)
    exact⟨false,rfl,(fun h=>by cases h),⟨hs.d,by(refine sg hs.t0 ?_;try exact⟨⟩),by(refine sg hs.t1 ?_;try exact⟨⟩),by(refine sg hs.t3 ?_;try exact⟨⟩),by(refine sg hs.t4 ?_;try exact⟨⟩),by(refine sg hs.t5 ?_;try exact⟨⟩),by(refine sg hs.t12 ?_;try exact⟨⟩),by(refine sg hs.t13 ?_;try exact⟨⟩),_,hk⟩⟩
  clear hs
  rintro T K D ⟨q,t47,hq,hs⟩
  cases q with
  | true=>
   rw[wcode_cond_t (show ev T (.tmp 47)=some (.bool true) by show some (T 47)=_;rw[t47])]
   have hcm:=hq rfl
   refine xcut (fun T K D=>∃ l,(LyB k c m ahead l∧l.kind=1∧c<l.comp∧l.comp<m∧l.shape=sh00)∧LyW H tb g lv ls k c m ahead l T K D) ?_ ?_
   ·obtain⟨vs,hk⟩:=hs.k
    have w1:IntKind.i64.wrap (c+1)=c+1:=wi (by omega) (by omega)
    have w2:IntKind.i64.wrap (m - c)=m - c:=wi (by omega) (by omega)
    have w3:IntKind.i64.wrap (m - c - 1)=m - c - 1:=wi (by omega) (by omega)
    (refine sg (et hs.t0 (et hs.t1 (et hs.t3 (et hs.t4 (et hs.t5 (et hs.t12 (et hs.t13 (et hk.c (et w1 (et w2 w3)))))))))) ?_;try exact⟨⟩)
    refine(next_ (m - c - 1) (by omega) _ hk.tp.tape).x ?_
    rintro v H1 W1 ⟨⟨x,a1⟩,⟨x0,x1,a0,a2⟩,rfl,rfl,rfl⟩
    have x0:0≤x:=x0
    have x1:x<m - c - 1:=x1
    have hk:=hk.step (a:=a1) a0 a2
    generalize K.set tb (tblk lv g a1)=K1 at *
    have w4:IntKind.i64.wrap (c+1+x)=c+1+x:=wi (by omega) (by omega)
    have g9:∀ X,(K1.set (H.length+1) X)[H.length+1]?=some X:=fun X=>List.getElem?_set_self (by have:=hk.len;omega)
    simp only[go_sem,Nat.reduceEqDiff,Nat.reduceAdd,Nat.reduceSub,Nat.reduceMul,Nat.reduceLT,Nat.reduceLeDiff,Int.reducePow,Int.reduceBEq,Int.reduceBNe,Int.reduceDiv,Int.reduceMod,Int.reduceEq,Int.reduceLT,Int.reduceLE,Int.reduceAdd,Int.reduceSub,Int.reduceMul,Int.reduceNeg,Int.reduceToNat,Int.reduceTDiv,Int.reduceTMod,↓reduceIte,hs.t0,hs.t1,hs.t3,hs.t4,hs.t5,hs.t12,hs.t13,hk.c,g9,List.set_set,dtb,kdh,w1,w2,w3,w4]
    exact⟨{ l with kind:=1,comp:=c+1+x },⟨⟨.inr ⟨rfl,by show c<c+1+x;omega,by show c+1+x<m;omega,by show keysB l.remap=true;rw[z3];rfl,z4⟩,hB.mt,hB.tm,hB.ma,hB.x,hB.y,hB.ax,hB.ay,hB.sx,hB.sy,hB.tu,hB.op,hB.pa⟩,rfl,by show c<c+1+x;omega,by show c+1+x<m;omega,z4⟩,⟨snoc hs.d,by(refine sg hs.t0 ?_;try exact⟨⟩),by(refine sg hs.t1 ?_;try exact⟨⟩),by(refine sg hs.t3 ?_;try exact⟨⟩),by(refine sg hs.t4 ?_;try exact⟨⟩),by(refine sg hs.t5 ?_;try exact⟨⟩),by(refine sg hs.t12 ?_;try exact⟨⟩),by(refine sg hs.t13 ?_;try exact⟨⟩),_,hk.put { l with kind:=1,comp:=c+1+x } vs (hk.r.map fun _ r=>⟨⟨r.1.x,r.1.y,r.1.ax,r.1.ay,r.1.sx,r.1.sy,r.1.turn,r.1.opac,r.1.remap,r.1.mask⟩,r.2⟩)⟩⟩
   clear hs
   clear z1 z2 z3 z4 hB t47
   rintro T K D ⟨l,⟨hB,z1,z2,z3,z4⟩,hs⟩
   obtain⟨vs,hk⟩:=hs.k
   (refine sg (et hs.t0 (et hs.t1 (et hs.t3 (et hs.t4 (et hs.t5 (et hs.t12 (et hs.t13 hk.c))))))) ?_;try exact⟨⟩)
   refine(next_ 3 (by omega) _ hk.tp.tape).x ?_
   rintro v H1 W1 ⟨⟨x,a1⟩,⟨x0,x1,a0,a2⟩,rfl,rfl,rfl⟩
   have x0:0≤x:=x0
   have x1:x<3:=x1
   have hk:=hk.step (a:=a1) a0 a2
   generalize K.set tb (tblk lv g a1)=K1 at *
   by_cases hx:x=0
   ·(refine sg (et hs.t0 (et hs.t1 (et hs.t3 (et hs.t4 (et hs.t5 (et hs.t12 (et hs.t13 (et hk.c (et (bt hx) dtb))))))))) ?_;try exact⟨⟩)
    refine(next_ 6 (by omega) _ hk.tp.tape).x ?_
    rintro v H1 W1 ⟨⟨q1,b1⟩,⟨q10,q11,b0,b2⟩,rfl,rfl,rfl⟩
    have q10:0≤q1:=q10
    have q11:q1<6:=q11
    have hk:=hk.step (a:=b1) b0 b2
    generalize K1.set tb (tblk lv g b1)=K2 at *
    (refine sg (et hs.t0 (et hs.t1 (et hs.t3 (et hs.t4 (et hs.t5 (et hs.t12 (et hs.t13 (et hk.c dtb)))))))) ?_;try exact⟨⟩)
    refine(next_ 20 (by omega) _ hk.tp.tape).x ?_
    rintro v H1 W1 ⟨⟨q2,e1⟩,⟨q20,q21,e0,e2⟩,rfl,rfl,rfl⟩
    have q20:0≤q2:=q20
    have q21:q2<20:=q21
    have hk:=hk.step (a:=e1) e0 e2
    generalize K2.set tb (tblk lv g e1)=K3 at *
    have kd:∀ n,decide (K3.length+n<H.length)=false:=fun n=>df (by have:=hk.len;omega)
    have kd0:decide (K3.length<H.length)=false:=df (by have:=hk.len;omega)
    have hR:Dep (H.length+2) (K3++[⟨kyC ⟨0,q1,1,ez00⟩++kyC ⟨10,q2,0,ez00⟩,0,true⟩]) (fun J=>Kys J (sl K3.length 0 0 2 7) [⟨0,q1,1,ez00⟩,⟨10,q2,0,ez00⟩]):=fun J hJ=>by
     refine .inr ⟨K3.length,0,[],true,[kyC ⟨0,q1,1,ez00⟩,kyC ⟨10,q2,0,ez00⟩],rfl,hJ _ _ (by have:=hk.len;omega) (by rw[hget_app0];rfl),rfl,by simp,fun i x hx=>?_⟩
     match i,hx with
     | 0,hx=>simp at hx;subst hx;exact⟨_,rfl,rfl,rfl⟩
     | 1,hx=>simp at hx;subst hx;exact⟨_,rfl,rfl,rfl⟩
     | i+2,hx=>simp at hx
    have hc:=hk.c
    have hk:=hk.app [⟨kyC ⟨0,q1,1,ez00⟩++kyC ⟨10,q2,0,ez00⟩,0,true⟩]
    (refine sg (et hs.t0 (et hs.t1 (et hs.t3 (et hs.t4 (et hs.t5 (et hs.t12 (et hs.t13 (et hc (et (old_get hc) (et dtb (et kd (et kd0 kdh)))))))))))) ?_;try exact⟨⟩)
    exact⟨{ l with remap:=[⟨0,q1,1,ez00⟩,⟨10,q2,0,ez00⟩] },⟨.inr ⟨z1,z2,z3,keys2 (by omega) (by omega) (by omega) (by omega) (by omega),z4⟩,hB.mt,hB.tm,hB.ma,hB.x,hB.y,hB.ax,hB.ay,hB.sx,hB.sy,hB.tu,hB.op,hB.pa⟩,⟨snoc (snoc (snoc hs.d)),by(refine sg hs.t0 ?_;try exact⟨⟩),by(refine sg hs.t1 ?_;try exact⟨⟩),by(refine sg hs.t3 ?_;try exact⟨⟩),by(refine sg hs.t4 ?_;try exact⟨⟩),by(refine sg hs.t5 ?_;try exact⟨⟩),by(refine sg hs.t12 ?_;try exact⟨⟩),by(refine sg hs.t13 ?_;try exact⟨⟩),_,hk.put { l with remap:=[⟨0,q1,1,ez00⟩,⟨10,q2,0,ez00⟩] } { vs with v8:=sl K3.length 0 0 2 7 } ((hk.r.and hR).map fun _ r=>⟨⟨r.1.1.x,r.1.1.y,r.1.1.ax,r.1.1.ay,r.1.1.sx,r.1.1.sy,r.1.1.turn,r.1.1.opac,r.2,r.1.1.mask⟩,r.1.2⟩)⟩⟩
   ·(refine sg (et hs.t0 (et hs.t1 (et hs.t3 (et hs.t4 (et hs.t5 (et hs.t12 (et hs.t13 (et hk.c (et (bf hx) dtb))))))))) ?_;try exact⟨⟩)
    exact⟨l,hB,⟨snoc hs.d,by(refine sg hs.t0 ?_;try exact⟨⟩),by(refine sg hs.t1 ?_;try exact⟨⟩),by(refine sg hs.t3 ?_;try exact⟨⟩),by(refine sg hs.t4 ?_;try exact⟨⟩),by(refine sg hs.t5 ?_;try exact⟨⟩),by(refine sg hs.t12 ?_;try exact⟨⟩),by(refine sg hs.t13 ?_;try exact⟨⟩),_,hk⟩⟩
  | false=>
   rw[wcode_cond_f (show ev T (.tmp 47)=some (.bool false) by show some (T 47)=_;rw[t47])]
   obtain⟨vs,hk⟩:=hs.k
   (refine sg (et hs.t0 (et hs.t1 (et hs.t3 (et hs.t4 (et hs.t5 (et hs.t12 (et hs.t13 hk.c))))))) ?_;try exact⟨⟩)
   refine(kshape_ _ hk.tp.tape).x ?_
   rintro v V1 W1 ⟨hW,hT,s,vw,vh,vp,vc,vd,vda,vf,vt,rfl,hd,hsh⟩
   have hd:=hd.low (n1:=H.length+2) hk.len
   have hk:=hk.trans hT
   (refine sg (et hs.t0 (et hs.t1 (et hs.t3 (et hs.t4 (et hs.t5 (et hs.t12 (et hs.t13 (et hk.c (et dtb kdh))))))))) ?_;try exact⟨⟩)
   exact⟨{ l with shape:=s },⟨.inl ⟨z1,z2,z3,hsh⟩,hB.mt,hB.tm,hB.ma,hB.x,hB.y,hB.ax,hB.ay,hB.sx,hB.sy,hB.tu,hB.op,hB.pa⟩,⟨snocF hs.d hW htb,by(refine sg hs.t0 ?_;try exact⟨⟩),by(refine sg hs.t1 ?_;try exact⟨⟩),by(refine sg hs.t3 ?_;try exact⟨⟩),by(refine sg hs.t4 ?_;try exact⟨⟩),by(refine sg hs.t5 ?_;try exact⟨⟩),by(refine sg hs.t12 ?_;try exact⟨⟩),by(refine sg hs.t13 ?_;try exact⟨⟩),_,hk.put { l with shape:=s } ⟨vs.v0,vs.v1,vs.v2,vs.v3,vs.v4,vs.v5,vs.v6,vs.v7,vs.v8,vs.pm,vw,vh,vp,vc,vd,vda,vf,vt⟩ ((hk.r.and hd).map fun _ r=>⟨⟨r.1.1.x,r.1.1.y,r.1.1.ax,r.1.1.ay,r.1.1.sx,r.1.1.sy,r.1.1.turn,r.1.1.opac,r.1.1.remap,r.1.1.mask⟩,r.2⟩)⟩⟩
 clear hs
 rintro T K D ⟨l,hB,hs⟩
 refine xcut (fun T K D=>∃ l,LyB k c m ahead l∧LyW H tb g lv ls k c m ahead l T K D) ?_ ?_
 ·obtain⟨vs,hk⟩:=hs.k
  (refine sg (et hs.t0 (et hs.t1 (et hs.t3 (et hs.t4 (et hs.t5 (et hs.t12 (et hs.t13 hk.c))))))) ?_;try exact⟨⟩)
  refine(next_ 4 (by omega) _ hk.tp.tape).x ?_
  rintro v H1 W1 ⟨⟨x,a1⟩,⟨x0,x1,a0,a2⟩,rfl,rfl,rfl⟩
  have x0:0≤x:=x0
  have x1:x<4:=x1
  have hk:=hk.step (a:=a1) a0 a2
  generalize K.set tb (tblk lv g a1)=K1 at *
  by_cases hx:0<x
  ·(refine sg (et hs.t0 (et hs.t1 (et hs.t3 (et hs.t4 (et hs.t5 (et hs.t12 (et hs.t13 (et hk.c (et (dt hx) (et dtb kdh)))))))))) ?_;try exact⟨⟩)
   have hlt:=hk.tp.lt
   refine(kkeys_ (0) 14 (by omega) (by omega) (by omega) _ hk.tp.tape).x ?_
   rintro v V1 W1 ⟨hW1,hT1,l1,hM1,hl1⟩
   obtain⟨va1,ve1,rfl⟩:=hM1.form
   have hM1:=hM1.low (n1:=H.length+2) (by have:=hk.len;omega)
   have hk:=hk.trans hT1
   (refine sg (et hs.t0 (et hs.t1 (et hs.t3 (et hs.t4 (et hs.t5 (et hs.t12 (et hs.t13 dtb))))))) ?_;try exact⟨⟩)
   refine(kkeys_ (0) 14 (by omega) (by omega) (by omega) _ hk.tp.tape).x ?_
   rintro v V2 W2 ⟨hW2,hT2,l2,hM2,hl2⟩
   obtain⟨va2,ve2,rfl⟩:=hM2.form
   have hM2:=hM2.low (n1:=H.length+2) (by have:=hk.len;omega)
   have hk:=hk.trans hT2
   have hc:=hk.c
   have hM1:=hM1.olt hT2.old (by omega)
   have hr:=hk.r
   have hr:=hr.and (hM1.dep (by have:=hl1.len;omega))
   have hr:=hr.and (hM2.dep (by have:=hl2.len;omega))
   have g9:∀ X,(V2.set (H.length+1) X)[H.length+1]?=some X:=fun X=>List.getElem?_set_self (by have:=hk.len;omega)
   have hk:=hk.put { l with x:=l1,y:=l2 } { vs with v0:=.slice va1 l1.length ve1,v1:=.slice va2 l2.length ve2 } (hr.map fun _ r=>⟨⟨r.1.2,r.2,r.1.1.1.ax,r.1.1.1.ay,r.1.1.1.sx,r.1.1.1.sy,r.1.1.1.turn,r.1.1.1.opac,r.1.1.1.remap,r.1.1.1.mask⟩,r.1.1.2⟩)
   simp only[go_sem,Nat.reduceEqDiff,Nat.reduceAdd,Nat.reduceSub,Nat.reduceMul,Nat.reduceLT,Nat.reduceLeDiff,Int.reducePow,Int.reduceBEq,Int.reduceBNe,Int.reduceDiv,Int.reduceMod,Int.reduceEq,Int.reduceLT,Int.reduceLE,Int.reduceAdd,Int.reduceSub,Int.reduceMul,Int.reduceNeg,Int.reduceToNat,Int.reduceTDiv,Int.reduceTMod,↓reduceIte,hs.t0,hs.t1,hs.t3,hs.t4,hs.t5,hs.t12,hs.t13,hc,g9,List.set_set,dtb,kdh]
   exact⟨{ l with x:=l1,y:=l2 },⟨hB.kd,hB.mt,hB.tm,hB.ma,hl1.keys (by omega),hl2.keys (by omega),hB.ax,hB.ay,hB.sx,hB.sy,hB.tu,hB.op,hB.pa⟩,⟨snocF (snocF (snoc hs.d) hW1 htb) hW2 htb,by(refine sg hs.t0 ?_;try exact⟨⟩),by(refine sg hs.t1 ?_;try exact⟨⟩),by(refine sg hs.t3 ?_;try exact⟨⟩),by(refine sg hs.t4 ?_;try exact⟨⟩),by(refine sg hs.t5 ?_;try exact⟨⟩),by(refine sg hs.t12 ?_;try exact⟨⟩),by(refine sg hs.t13 ?_;try exact⟨⟩),_,hk⟩⟩
  ·(refine sg (et hs.t0 (et hs.t1 (et hs.t3 (et hs.t4 (et hs.t5 (et hs.t12 (et hs.t13 (et hk.c (et (df hx) (et dtb kdh)))))))))) ?_;try exact⟨⟩)
   exact⟨l,hB,⟨snoc hs.d,by(refine sg hs.t0 ?_;try exact⟨⟩),by(refine sg hs.t1 ?_;try exact⟨⟩),by(refine sg hs.t3 ?_;try exact⟨⟩),by(refine sg hs.t4 ?_;try exact⟨⟩),by(refine sg hs.t5 ?_;try exact⟨⟩),by(refine sg hs.t12 ?_;try exact⟨⟩),by(refine sg hs.t13 ?_;try exact⟨⟩),_,hk⟩⟩
 clear hs
 rintro T K D ⟨l,hB,hs⟩
 refine xcut (fun T K D=>∃ l,LyB k c m ahead l∧LyW H tb g lv ls k c m ahead l T K D) ?_ ?_
 ·obtain⟨vs,hk⟩:=hs.k
  (refine sg (et hs.t0 (et hs.t1 (et hs.t3 (et hs.t4 (et hs.t5 (et hs.t12 (et hs.t13 hk.c))))))) ?_;try exact⟨⟩)
  refine(next_ 3 (by omega) _ hk.tp.tape).x ?_
  rintro v H1 W1 ⟨⟨x,a1⟩,⟨x0,x1,a0,a2⟩,rfl,rfl,rfl⟩
  have x0:0≤x:=x0
  have x1:x<3:=x1
  have hk:=hk.step (a:=a1) a0 a2
  generalize K.set tb (tblk lv g a1)=K1 at *
  by_cases hx:x=0
  ·(refine sg (et hs.t0 (et hs.t1 (et hs.t3 (et hs.t4 (et hs.t5 (et hs.t12 (et hs.t13 (et hk.c (et (bt hx) (et dtb kdh)))))))))) ?_;try exact⟨⟩)
   have hlt:=hk.tp.lt
   refine(kkeys_ (-3) 3 (by omega) (by omega) (by omega) _ hk.tp.tape).x ?_
   rintro v V1 W1 ⟨hW1,hT1,l1,hM1,hl1⟩
   obtain⟨va1,ve1,rfl⟩:=hM1.form
   have hM1:=hM1.low (n1:=H.length+2) (by have:=hk.len;omega)
   have hk:=hk.trans hT1
   (refine sg (et hs.t0 (et hs.t1 (et hs.t3 (et hs.t4 (et hs.t5 (et hs.t12 (et hs.t13 dtb))))))) ?_;try exact⟨⟩)
   refine(kkeys_ (-3) 3 (by omega) (by omega) (by omega) _ hk.tp.tape).x ?_
   rintro v V2 W2 ⟨hW2,hT2,l2,hM2,hl2⟩
   obtain⟨va2,ve2,rfl⟩:=hM2.form
   have hM2:=hM2.low (n1:=H.length+2) (by have:=hk.len;omega)
   have hk:=hk.trans hT2
   (refine sg (et hs.t0 (et hs.t1 (et hs.t3 (et hs.t4 (et hs.t5 (et hs.t12 (et hs.t13 dtb))))))) ?_;try exact⟨⟩)
   refine(kkeys_ (0) 2 (by omega) (by omega) (by omega) _ hk.tp.tape).x ?_
   rintro v V3 W3 ⟨hW3,hT3,l3,hM3,hl3⟩
   obtain⟨va3,ve3,rfl⟩:=hM3.form
   have hM3:=hM3.low (n1:=H.length+2) (by have:=hk.len;omega)
   have hk:=hk.trans hT3
   (refine sg (et hs.t0 (et hs.t1 (et hs.t3 (et hs.t4 (et hs.t5 (et hs.t12 (et hs.t13 dtb))))))) ?_;try exact⟨⟩)
   refine(kkeys_ (-1) 2 (by omega) (by omega) (by omega) _ hk.tp.tape).x ?_
   rintro v V4 W4 ⟨hW4,hT4,l4,hM4,hl4⟩
   obtain⟨va4,ve4,rfl⟩:=hM4.form
   have hM4:=hM4.low (n1:=H.length+2) (by have:=hk.len;omega)
   have hk:=hk.trans hT4
   have hc:=hk.c
   have hM1:=hM1.olt hT2.old (by omega)
   have hM1:=hM1.olt hT3.old (by omega)
   have hM1:=hM1.olt hT4.old (by omega)
   have hM2:=hM2.olt hT3.old (by omega)
   have hM2:=hM2.olt hT4.old (by omega)
   have hM3:=hM3.olt hT4.old (by omega)
   have hr:=hk.r
   have hr:=hr.and (hM1.dep (by have:=hl1.len;omega))
   have hr:=hr.and (hM2.dep (by have:=hl2.len;omega))
   have hr:=hr.and (hM3.dep (by have:=hl3.len;omega))
   have hr:=hr.and (hM4.dep (by have:=hl4.len;omega))
   have g9:∀ X,(V4.set (H.length+1) X)[H.length+1]?=some X:=fun X=>List.getElem?_set_self (by have:=hk.len;omega)
   have hk:=hk.put { l with ax:=l1,ay:=l2,sx:=l3,sy:=l4 } { vs with v2:=.slice va1 l1.length ve1,v3:=.slice va2 l2.length ve2,v4:=.slice va3 l3.length ve3,v5:=.slice va4 l4.length ve4 } (hr.map fun _ r=>⟨⟨r.1.1.1.1.1.x,r.1.1.1.1.1.y,r.1.1.1.2,r.1.1.2,r.1.2,r.2,r.1.1.1.1.1.turn,r.1.1.1.1.1.opac,r.1.1.1.1.1.remap,r.1.1.1.1.1.mask⟩,r.1.1.1.1.2⟩)
   simp only[go_sem,Nat.reduceEqDiff,Nat.reduceAdd,Nat.reduceSub,Nat.reduceMul,Nat.reduceLT,Nat.reduceLeDiff,Int.reducePow,Int.reduceBEq,Int.reduceBNe,Int.reduceDiv,Int.reduceMod,Int.reduceEq,Int.reduceLT,Int.reduceLE,Int.reduceAdd,Int.reduceSub,Int.reduceMul,Int.reduceNeg,Int.reduceToNat,Int.reduceTDiv,Int.reduceTMod,↓reduceIte,hs.t0,hs.t1,hs.t3,hs.t4,hs.t5,hs.t12,hs.t13,hc,g9,List.set_set,dtb,kdh]
   exact⟨{ l with ax:=l1,ay:=l2,sx:=l3,sy:=l4 },⟨hB.kd,hB.mt,hB.tm,hB.ma,hB.x,hB.y,hl1.keys (by omega),hl2.keys (by omega),hl3.keys (by omega),hl4.keys (by omega),hB.tu,hB.op,hB.pa⟩,⟨snocF (snocF (snocF (snocF (snoc hs.d) hW1 htb) hW2 htb) hW3 htb) hW4 htb,by(refine sg hs.t0 ?_;try exact⟨⟩),by(refine sg hs.t1 ?_;try exact⟨⟩),by(refine sg hs.t3 ?_;try exact⟨⟩),by(refine sg hs.t4 ?_;try exact⟨⟩),by(refine sg hs.t5 ?_;try exact⟨⟩),by(refine sg hs.t12 ?_;try exact⟨⟩),by(refine sg hs.t13 ?_;try exact⟨⟩),_,hk⟩⟩
  ·(refine sg (et hs.t0 (et hs.t1 (et hs.t3 (et hs.t4 (et hs.t5 (et hs.t12 (et hs.t13 (et hk.c (et (bf hx) (et dtb kdh)))))))))) ?_;try exact⟨⟩)
   exact⟨l,hB,⟨snoc hs.d,by(refine sg hs.t0 ?_;try exact⟨⟩),by(refine sg hs.t1 ?_;try exact⟨⟩),by(refine sg hs.t3 ?_;try exact⟨⟩),by(refine sg hs.t4 ?_;try exact⟨⟩),by(refine sg hs.t5 ?_;try exact⟨⟩),by(refine sg hs.t12 ?_;try exact⟨⟩),by(refine sg hs.t13 ?_;try exact⟨⟩),_,hk⟩⟩
 clear hs
 rintro T K D ⟨l,hB,hs⟩
 refine xcut (fun T K D=>∃ l,LyB k c m ahead l∧LyW H tb g lv ls k c m ahead l T K D) ?_ ?_
 ·obtain⟨vs,hk⟩:=hs.k
  (refine sg (et hs.t0 (et hs.t1 (et hs.t3 (et hs.t4 (et hs.t5 (et hs.t12 (et hs.t13 hk.c))))))) ?_;try exact⟨⟩)
  refine(next_ 3 (by omega) _ hk.tp.tape).x ?_
  rintro v H1 W1 ⟨⟨x,a1⟩,⟨x0,x1,a0,a2⟩,rfl,rfl,rfl⟩
  have x0:0≤x:=x0
  have x1:x<3:=x1
  have hk:=hk.step (a:=a1) a0 a2
  generalize K.set tb (tblk lv g a1)=K1 at *
  by_cases hx:x=0
  ·(refine sg (et hs.t0 (et hs.t1 (et hs.t3 (et hs.t4 (et hs.t5 (et hs.t12 (et hs.t13 (et hk.c (et (bt hx) (et dtb kdh)))))))))) ?_;try exact⟨⟩)
   have hlt:=hk.tp.lt
   refine(kkeys_ (-200) 400 (by omega) (by omega) (by omega) _ hk.tp.tape).x ?_
   rintro v V1 W1 ⟨hW1,hT1,l1,hM1,hl1⟩
   obtain⟨va1,ve1,rfl⟩:=hM1.form
   have hM1:=hM1.low (n1:=H.length+2) (by have:=hk.len;omega)
   have hk:=hk.trans hT1
   have hc:=hk.c
   have hr:=hk.r
   have hr:=hr.and (hM1.dep (by have:=hl1.len;omega))
   have g9:∀ X,(V1.set (H.length+1) X)[H.length+1]?=some X:=fun X=>List.getElem?_set_self (by have:=hk.len;omega)
   have hk:=hk.put { l with turn:=l1 } { vs with v6:=.slice va1 l1.length ve1 } (hr.map fun _ r=>⟨⟨r.1.1.x,r.1.1.y,r.1.1.ax,r.1.1.ay,r.1.1.sx,r.1.1.sy,r.2,r.1.1.opac,r.1.1.remap,r.1.1.mask⟩,r.1.2⟩)
   simp only[go_sem,Nat.reduceEqDiff,Nat.reduceAdd,Nat.reduceSub,Nat.reduceMul,Nat.reduceLT,Nat.reduceLeDiff,Int.reducePow,Int.reduceBEq,Int.reduceBNe,Int.reduceDiv,Int.reduceMod,Int.reduceEq,Int.reduceLT,Int.reduceLE,Int.reduceAdd,Int.reduceSub,Int.reduceMul,Int.reduceNeg,Int.reduceToNat,Int.reduceTDiv,Int.reduceTMod,↓reduceIte,hs.t0,hs.t1,hs.t3,hs.t4,hs.t5,hs.t12,hs.t13,hc,g9,List.set_set,dtb,kdh]
   exact⟨{ l with turn:=l1 },⟨hB.kd,hB.mt,hB.tm,hB.ma,hB.x,hB.y,hB.ax,hB.ay,hB.sx,hB.sy,hl1.keys (by omega),hB.op,hB.pa⟩,⟨snocF (snoc hs.d) hW1 htb,by(refine sg hs.t0 ?_;try exact⟨⟩),by(refine sg hs.t1 ?_;try exact⟨⟩),by(refine sg hs.t3 ?_;try exact⟨⟩),by(refine sg hs.t4 ?_;try exact⟨⟩),by(refine sg hs.t5 ?_;try exact⟨⟩),by(refine sg hs.t12 ?_;try exact⟨⟩),by(refine sg hs.t13 ?_;try exact⟨⟩),_,hk⟩⟩
  ·(refine sg (et hs.t0 (et hs.t1 (et hs.t3 (et hs.t4 (et hs.t5 (et hs.t12 (et hs.t13 (et hk.c (et (bf hx) (et dtb kdh)))))))))) ?_;try exact⟨⟩)
   exact⟨l,hB,⟨snoc hs.d,by(refine sg hs.t0 ?_;try exact⟨⟩),by(refine sg hs.t1 ?_;try exact⟨⟩),by(refine sg hs.t3 ?_;try exact⟨⟩),by(refine sg hs.t4 ?_;try exact⟨⟩),by(refine sg hs.t5 ?_;try exact⟨⟩),by(refine sg hs.t12 ?_;try exact⟨⟩),by(refine sg hs.t13 ?_;try exact⟨⟩),_,hk⟩⟩
 clear hs
 rintro T K D ⟨l,hB,hs⟩
 refine xcut (fun T K D=>∃ l,LyB k c m ahead l∧LyW H tb g lv ls k c m ahead l T K D) ?_ ?_
 ·obtain⟨vs,hk⟩:=hs.k
  (refine sg (et hs.t0 (et hs.t1 (et hs.t3 (et hs.t4 (et hs.t5 (et hs.t12 (et hs.t13 hk.c))))))) ?_;try exact⟨⟩)
  refine(next_ 3 (by omega) _ hk.tp.tape).x ?_
  rintro v H1 W1 ⟨⟨x,a1⟩,⟨x0,x1,a0,a2⟩,rfl,rfl,rfl⟩
  have x0:0≤x:=x0
  have x1:x<3:=x1
  have hk:=hk.step (a:=a1) a0 a2
  generalize K.set tb (tblk lv g a1)=K1 at *
  by_cases hx:x=0
  ·(refine sg (et hs.t0 (et hs.t1 (et hs.t3 (et hs.t4 (et hs.t5 (et hs.t12 (et hs.t13 (et hk.c (et (bt hx) (et dtb kdh)))))))))) ?_;try exact⟨⟩)
   have hlt:=hk.tp.lt
   refine(kkeys_ (0) 1 (by omega) (by omega) (by omega) _ hk.tp.tape).x ?_
   rintro v V1 W1 ⟨hW1,hT1,l1,hM1,hl1⟩
   obtain⟨va1,ve1,rfl⟩:=hM1.form
   have hM1:=hM1.low (n1:=H.length+2) (by have:=hk.len;omega)
   have hk:=hk.trans hT1
   have hc:=hk.c
   have hr:=hk.r
   have hr:=hr.and (hM1.dep (by have:=hl1.len;omega))
   have g9:∀ X,(V1.set (H.length+1) X)[H.length+1]?=some X:=fun X=>List.getElem?_set_self (by have:=hk.len;omega)
   have hk:=hk.put { l with opac:=l1 } { vs with v7:=.slice va1 l1.length ve1 } (hr.map fun _ r=>⟨⟨r.1.1.x,r.1.1.y,r.1.1.ax,r.1.1.ay,r.1.1.sx,r.1.1.sy,r.1.1.turn,r.2,r.1.1.remap,r.1.1.mask⟩,r.1.2⟩)
   simp only[go_sem,Nat.reduceEqDiff,Nat.reduceAdd,Nat.reduceSub,Nat.reduceMul,Nat.reduceLT,Nat.reduceLeDiff,Int.reducePow,Int.reduceBEq,Int.reduceBNe,Int.reduceDiv,Int.reduceMod,Int.reduceEq,Int.reduceLT,Int.reduceLE,Int.reduceAdd,Int.reduceSub,Int.reduceMul,Int.reduceNeg,Int.reduceToNat,Int.reduceTDiv,Int.reduceTMod,↓reduceIte,hs.t0,hs.t1,hs.t3,hs.t4,hs.t5,hs.t12,hs.t13,hc,g9,List.set_set,dtb,kdh]
   exact⟨{ l with opac:=l1 },⟨hB.kd,hB.mt,hB.tm,hB.ma,hB.x,hB.y,hB.ax,hB.ay,hB.sx,hB.sy,hB.tu,hl1.keys (by omega),hB.pa⟩,⟨snocF (snoc hs.d) hW1 htb,by(refine sg hs.t0 ?_;try exact⟨⟩),by(refine sg hs.t1 ?_;try exact⟨⟩),by(refine sg hs.t3 ?_;try exact⟨⟩),by(refine sg hs.t4 ?_;try exact⟨⟩),by(refine sg hs.t5 ?_;try exact⟨⟩),by(refine sg hs.t12 ?_;try exact⟨⟩),by(refine sg hs.t13 ?_;try exact⟨⟩),_,hk⟩⟩
  ·(refine sg (et hs.t0 (et hs.t1 (et hs.t3 (et hs.t4 (et hs.t5 (et hs.t12 (et hs.t13 (et hk.c (et (bf hx) (et dtb kdh)))))))))) ?_;try exact⟨⟩)
   exact⟨l,hB,⟨snoc hs.d,by(refine sg hs.t0 ?_;try exact⟨⟩),by(refine sg hs.t1 ?_;try exact⟨⟩),by(refine sg hs.t3 ?_;try exact⟨⟩),by(refine sg hs.t4 ?_;try exact⟨⟩),by(refine sg hs.t5 ?_;try exact⟨⟩),by(refine sg hs.t12 ?_;try exact⟨⟩),by(refine sg hs.t13 ?_;try exact⟨⟩),_,hk⟩⟩
 clear hs
 rintro T K D ⟨l,hB,hs⟩
 refine xcut (fun T K D=>∃ l,LyB k c m ahead l∧LyW H tb g lv ls k c m ahead l T K D) ?_ ?_
 ·obtain⟨vs,hk⟩:=hs.k
  cases ahead with
  | true=>
   (refine sg (et hs.t0 (et hs.t1 (et hs.t3 (et hs.t4 (et hs.t5 (et hs.t12 (et hs.t13 hk.c))))))) ?_;try exact⟨⟩)
   exact⟨l,hB,⟨hs.d,by(refine sg hs.t0 ?_;try exact⟨⟩),by(refine sg hs.t1 ?_;try exact⟨⟩),by(refine sg hs.t3 ?_;try exact⟨⟩),by(refine sg hs.t4 ?_;try exact⟨⟩),by(refine sg hs.t5 ?_;try exact⟨⟩),by(refine sg hs.t12 ?_;try exact⟨⟩),by(refine sg hs.t13 ?_;try exact⟨⟩),_,hk⟩⟩
  | false=>
   (refine sg (et hs.t0 (et hs.t1 (et hs.t3 (et hs.t4 (et hs.t5 (et hs.t12 (et hs.t13 hk.c))))))) ?_;try exact⟨⟩)
   refine(next_ 4 (by omega) _ hk.tp.tape).x ?_
   rintro v H1 W1 ⟨⟨x,a1⟩,⟨x0,x1,a0,a2⟩,rfl,rfl,rfl⟩
   have x0:0≤x:=x0
   have x1:x<4:=x1
   have hk:=hk.step (a:=a1) a0 a2
   generalize K.set tb (tblk lv g a1)=K1 at *
   by_cases hx:x=0
   ·(refine sg (et hs.t0 (et hs.t1 (et hs.t3 (et hs.t4 (et hs.t5 (et hs.t12 (et hs.t13 (et hk.c (et (bt hx) (et dtb kdh)))))))))) ?_;try exact⟨⟩)
    refine(next_ 2 (by omega) _ hk.tp.tape).x ?_
    rintro v H1 W1 ⟨⟨q,b1⟩,⟨q0,q1,b0,b2⟩,rfl,rfl,rfl⟩
    have q0:0≤q:=q0
    have q1:q<2:=q1
    have hk:=hk.step (a:=b1) b0 b2
    generalize K1.set tb (tblk lv g b1)=K2 at *
    have w1:IntKind.i64.wrap (1+q)=1+q:=wi (by omega) (by omega)
    (refine sg (et hs.t0 (et hs.t1 (et hs.t3 (et hs.t4 (et hs.t5 (et hs.t12 (et hs.t13 (et hk.c (et dtb (et kdh w1)))))))))) ?_;try exact⟨⟩)
    exact⟨{ l with matte:=1+q },⟨hB.kd,⟨by show 0≤1+q;omega,by show 1+q≤2;omega,fun h=>by cases h⟩,hB.tm,hB.ma,hB.x,hB.y,hB.ax,hB.ay,hB.sx,hB.sy,hB.tu,hB.op,hB.pa⟩,⟨snoc (snoc hs.d),by(refine sg hs.t0 ?_;try exact⟨⟩),by(refine sg hs.t1 ?_;try exact⟨⟩),by(refine sg hs.t3 ?_;try exact⟨⟩),by(refine sg hs.t4 ?_;try exact⟨⟩),by(refine sg hs.t5 ?_;try exact⟨⟩),by(refine sg hs.t12 ?_;try exact⟨⟩),by(refine sg hs.t13 ?_;try exact⟨⟩),_,hk.put { l with matte:=1+q } vs (hk.r.map fun _ r=>⟨⟨r.1.x,r.1.y,r.1.ax,r.1.ay,r.1.sx,r.1.sy,r.1.turn,r.1.opac,r.1.remap,r.1.mask⟩,r.2⟩)⟩⟩
   ·(refine sg (et hs.t0 (et hs.t1 (et hs.t3 (et hs.t4 (et hs.t5 (et hs.t12 (et hs.t13 (et hk.c (et (bf hx) (et dtb kdh)))))))))) ?_;try exact⟨⟩)
    exact⟨l,hB,⟨snoc hs.d,by(refine sg hs.t0 ?_;try exact⟨⟩),by(refine sg hs.t1 ?_;try exact⟨⟩),by(refine sg hs.t3 ?_;try exact⟨⟩),by(refine sg hs.t4 ?_;try exact⟨⟩),by(refine sg hs.t5 ?_;try exact⟨⟩),by(refine sg hs.t12 ?_;try exact⟨⟩),by(refine sg hs.t13 ?_;try exact⟨⟩),_,hk⟩⟩
 clear hs
 rintro T K D ⟨l,hB,hs⟩
 refine xcut (fun T K D=>∃ l,LyB k c m ahead l∧LyW H tb g lv ls k c m ahead l T K D) ?_ ?_
 ·obtain⟨vs,hk⟩:=hs.k
  (refine sg (et hs.t0 (et hs.t1 (et hs.t3 (et hs.t4 (et hs.t5 (et hs.t12 (et hs.t13 hk.c))))))) ?_;try exact⟨⟩)
  refine(next_ 5 (by omega) _ hk.tp.tape).x ?_
  rintro v H1 W1 ⟨⟨x,a1⟩,⟨x0,x1,a0,a2⟩,rfl,rfl,rfl⟩
  have x0:0≤x:=x0
  have x1:x<5:=x1
  have hk:=hk.step (a:=a1) a0 a2
  generalize K.set tb (tblk lv g a1)=K1 at *
  by_cases hx:x=0
  ·(refine sg (et hs.t0 (et hs.t1 (et hs.t3 (et hs.t4 (et hs.t5 (et hs.t12 (et hs.t13 (et hk.c (et (bt hx) (et dtb kdh)))))))))) ?_;try exact⟨⟩)
   refine(next_ 2 (by omega) _ hk.tp.tape).x ?_
   rintro v H1 W1 ⟨⟨q,b1⟩,⟨q0,q1,b0,b2⟩,rfl,rfl,rfl⟩
   have q0:0≤q:=q0
   have q1:q<2:=q1
   have hk:=hk.step (a:=b1) b0 b2
   generalize K1.set tb (tblk lv g b1)=K2 at *
   obtain⟨np,hn1,hn2,w1⟩:∃ np:Nat,1≤np∧np≤3∧IntKind.i64.wrap (2+q)=(np:Int):=⟨(2+q).toNat,by omega,by omega,by rw[wi (by omega) (by omega)];omega⟩
   (refine sg (et hs.t0 (et hs.t1 (et hs.t3 (et hs.t4 (et hs.t5 (et hs.t12 (et hs.t13 (et hk.c (et dtb (et kdh w1)))))))))) ?_;try exact⟨⟩)
   refine(path_ np true (by omega) _ hk.tp.tape).x ?_
   rintro v H2 W2 ⟨⟨ps,e1⟩,⟨p1,p2,e0,e2⟩,rfl,rfl,rfl⟩
   have p1:ps.length=3*np+1:=p1
   have p2:∀ p∈ps,Bp p:=p2
   have hk:=hk.step (a:=e1) e0 e2
   have hl1:K2.length=(K2.set tb (tblk lv g e1)).length:=by simp
   rw[hl1]
   generalize K2.set tb (tblk lv g e1)=K3 at *
   clear hl1
   have hc:=hk.c
   have h8:=hk.len
   have hk:=hk.app [⟨ptC ps,0,true⟩]
   have hP:Dep (H.length+2) (K3++[⟨ptC ps,0,true⟩]) (fun J=>Pts J (sl K3.length 0 0 ps.length 2) ps):=fun J hJ=>.inr ⟨K3.length,0,[],true,rfl,by rw[List.append_nil];exact hJ K3.length _ h8 (by rw[hget_app0];rfl),by show ps.length≤_;omega⟩
   have hk:=hk.put { l with mask:=(true,ps) } { vs with pm:=sl K3.length 0 0 ps.length 2 } ((hk.r.and hP).map fun _ r=>⟨⟨r.1.1.x,r.1.1.y,r.1.1.ax,r.1.1.ay,r.1.1.sx,r.1.1.sy,r.1.1.turn,r.1.1.opac,r.1.1.remap,r.2⟩,r.1.2⟩)
   (refine sg (et hs.t0 (et hs.t1 (et hs.t3 (et hs.t4 (et hs.t5 (et hs.t12 (et hs.t13 (et hc (et (old_get hc) (et dtb kdh)))))))))) ?_;try exact⟨⟩)
   exact⟨{ l with mask:=(true,ps) },⟨hB.kd,hB.mt,hB.tm,mask_ p1 p2 hn1 (by omega),hB.x,hB.y,hB.ax,hB.ay,hB.sx,hB.sy,hB.tu,hB.op,hB.pa⟩,⟨snoc (snoc (snoc hs.d)),by(refine sg hs.t0 ?_;try exact⟨⟩),by(refine sg hs.t1 ?_;try exact⟨⟩),by(refine sg hs.t3 ?_;try exact⟨⟩),by(refine sg hs.t4 ?_;try exact⟨⟩),by(refine sg hs.t5 ?_;try exact⟨⟩),by(refine sg hs.t12 ?_;try exact⟨⟩),by(refine sg hs.t13 ?_;try exact⟨⟩),_,hk⟩⟩
  ·(refine sg (et hs.t0 (et hs.t1 (et hs.t3 (et hs.t4 (et hs.t5 (et hs.t12 (et hs.t13 (et hk.c (et (bf hx) (et dtb kdh)))))))))) ?_;try exact⟨⟩)
   exact⟨l,hB,⟨snoc hs.d,by(refine sg hs.t0 ?_;try exact⟨⟩),by(refine sg hs.t1 ?_;try exact⟨⟩),by(refine sg hs.t3 ?_;try exact⟨⟩),by(refine sg hs.t4 ?_;try exact⟨⟩),by(refine sg hs.t5 ?_;try exact⟨⟩),by(refine sg hs.t12 ?_;try exact⟨⟩),by(refine sg hs.t13 ?_;try exact⟨⟩),_,hk⟩⟩
 clear hs
 rintro T K D ⟨l,hB,hs⟩
 obtain⟨vs,hk⟩:=hs.k
 have g9:∀ X,(K.set H.length X)[H.length]?=some X:=fun X=>List.getElem?_set_self (by have:=hk.len;omega)
 (refine sg (et hs.t0 (et hs.t1 (et hs.t3 (et hs.t4 (et hs.t5 (et hs.t12 (et hs.t13 (et hk.c (et hk.z g9))))))))) ?_;try exact⟨⟩)
 exact⟨hs.d,hk.tp.bo (Nat.le_refl _) (Olx.set0 _ _ _) (by simp),l,vs,rfl,(hk.r.olx (Olx.set0 _ _ _) (by omega)).low (by omega),hB⟩
end Go.Proofs.YthhbglkokpablaaGreat
