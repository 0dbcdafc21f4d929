/- Merged texts: E9 EA EB EC ED EE EF EG. -/
import Derived.Test.YthhbglkokpablaaGreatV1
import Derived.Lib.LazyBuf
import Derived.Laws.IdiomStrings
import Derived.Laws.BytesArg
import Derived.Tactics
/- The machine's steps that call nothing, all together, and that each is what the world does. -/
set_option linter.unusedVariables false
set_option linter.unusedSimpArgs false
namespace Go.Proofs.YthhbglkokpablaaGreat.E
open Go Go.RowKit

/-! ### operators -/
def aint (op:BinOp) (k:IntKind) (a b:Int):Option Value:=
 match op with
 | .add=>some (.int k (k.wrap (a+b)))
 | .sub=>some (.int k (k.wrap (a - b)))
 | .mul=>some (.int k (k.wrap (a*b)))
 | .quo=>if b≠0 then some (.int k (k.wrap (a.tdiv b))) else none
 | .rem=>if b≠0 then some (.int k (a.tmod b)) else none
 | .and=>some (.int k (bits .and k a b))
 | .or=>some (.int k (bits .or k a b))
 | .xor=>some (.int k (bits .xor k a b))
 | .andNot=>some (.int k (bits .andNot k a b))
 | .eql=>some (.bool (a==b))
 | .neq=>some (.bool (a != b))
 | .lss=>some (.bool (decide (a<b)))
 | .leq=>some (.bool (decide (a≤b)))
 | .gtr=>some (.bool (decide (a>b)))
 | .geq=>some (.bool (decide (a≥b)))
 | .shl=>if 0≤b then some (.int k (k.wrap (a*2 ^ min b.toNat k.bits))) else none
 | .shr=>if 0≤b then some (.int k (a.fdiv (2 ^ min b.toNat k.bits))) else none

def isShift:BinOp→Bool
 | .shl | .shr=>true
 | _=>false

def tbool (P:Program) (t:TypeId):Bool:=
 match P.underlying t with
 | some .bool=>true
 | _=>false
theorem tbool_und {P:Program} {t:TypeId} (h:tbool P t=true):P.underlying t=some .bool:=by
 unfold tbool at h
 split at h
 ·assumption
 ·cases h

def tslc (P:Program) (t:TypeId):Bool:=
 match P.underlying t with
 | some (.slice _)=>true
 | _=>false
theorem tslc_und {P:Program} {t:TypeId} (h:tslc P t=true):∃ e,P.underlying t=some (.slice e):=by
 unfold tslc at h
 split at h
 ·exact⟨_,‹_›⟩
 ·cases h

def abin (P:Program) (op:BinOp) (t:TypeId) (x y:Value):Option Value:=
 match x,y with
 | .int k a,.int k' b=>if k=k'∨isShift op=true then aint op k a b else none
 | .bool a,.bool b=>match op with
  | .eql=>if tbool P t=true then some (.bool (a==b)) else none
  | .neq=>if tbool P t=true then some (.bool (!(a==b))) else none
  | _=>none
 | .string a,.string b=>match op with
  | .eql=>some (.bool (a.toList==b.toList))
  | .neq=>some (.bool (!(a.toList==b.toList)))
  | .add=>if ((a.size+b.size:Nat):Int)≤9223372036854775807 then some (.string (a++b)) else none
  | _=>none
 | .agg xs,.agg ys=>if P.eqGuardType P.depth t=false∧tagg P t=some true then
   (match flatTy P 16 t with
   | some ks=>match eqc ks xs.toList ys.toList with
    | some b=>(match op with
     | .eql=>some (.bool b)
     | .neq=>some (.bool (!b))
     | _=>none)
    | none=>none
   | none=>none) else none
 | .slice a _ _,.slice none 0 0=>if tslc P t=true then
   (match op with
   | .eql=>some (.bool a.isNone)
   | .neq=>some (.bool (!a.isNone))
   | _=>none) else none
 | _,_=>none

theorem aint_ok {P:Program} {op:BinOp} {k k':IntKind} {a b:Int} {t:TypeId} {v:Value} (h:aint op k a b=some v) (hk:k=k'∨isShift op=true) (w:World):(binOp op t (.int k a) (.int k' b)).run P w=.ok v w:=by
 unfold aint at h
 cases op
 case shl=>
  simp only at h
  split at h
  case isFalse=>cases h
  cases h
  simp[binOp,Op.shift,Int.not_lt.2 ‹_›]
 case shr=>
  simp only at h
  split at h
  case isFalse=>cases h
  cases h
  simp[binOp,Op.shift,Int.not_lt.2 ‹_›]
 all_goals
  have hk:k=k':=by rcases hk with h|h;exact h;cases h
  subst hk
  simp only at h
 case quo=>
  split at h
  case isFalse=>cases h
  cases h
  simp[binOp,Op.intDiv,‹b≠0›]
 case rem=>
  split at h
  case isFalse=>cases h
  cases h
  simp[binOp,Op.intDiv,‹b≠0›]
 all_goals (cases h;simp[binOp,Op.intArith,Op.intCmp,Op.intBits,bits])

theorem abin_ok {P:Program} {M:Mp} {op:BinOp} {t:TypeId} {x y x' y' v:Value} (hx:VR M x x') (hy:VR M y y') (h:abin P op t x y=some v) (px py:Operand) (w:World) :
  ((do eqGuard op t px py x' y';binOp op t x' y':Sem Value)).run P w=.ok v w∧VR M v v:=by
 unfold abin at h
 split at h
 ·rename_i k a k' b
  have:=hx.int_inv;subst this
  have:=hy.int_inv;subst this
  split at h
  case isFalse=>cases h
  rename_i hk
  have:=aint_ok (P:=P) (t:=t) h hk w
  refine⟨?_,?_⟩
  ·have hg:eqGuard op t px py (.int k a) (.int k' b)=pure ():=by cases op <;> rfl
   simp[hg,this]
  ·unfold aint at h
   cases op <;> simp only at h <;> (try (split at h)) <;> first|(cases h;done)|(cases h;first|exact .int _ _|exact .bool _)
 ·rename_i a b
  have:=hx.bool_inv;subst this
  have:=hy.bool_inv;subst this
  split at h
  case h_3=>cases h
  ·split at h
   case isFalse=>cases h
   rename_i hu
   cases h
   have hg:eqGuard .eql t px py (.bool a) (.bool b)=pure ():=rfl
   have:=run_eql_bool (P:=P) w t a b (tbool_und hu)
   exact⟨by simp[hg,this],.bool _⟩
  ·split at h
   case isFalse=>cases h
   rename_i hu
   cases h
   have hg:eqGuard .neq t px py (.bool a) (.bool b)=pure ():=rfl
   have:=run_neq_bool (P:=P) w t a b (tbool_und hu)
   exact⟨by simp[hg,this],.bool _⟩
 ·rename_i a b
  have:=hx.str_inv;subst this
  have:=hy.str_inv;subst this
  split at h
  case h_4=>cases h
  ·cases h
   have hg:eqGuard .eql t px py (.string a) (.string b)=pure ():=rfl
   exact⟨by simp[hg,binOp,Op.stringOp],.bool _⟩
  ·cases h
   have hg:eqGuard .neq t px py (.string a) (.string b)=pure ():=rfl
   exact⟨by simp[hg,binOp,Op.stringOp],.bool _⟩
  ·split at h
   case isFalse=>cases h
   rename_i hl
   cases h
   have hg:eqGuard .add t px py (.string a) (.string b)=pure ():=rfl
   have hm:¬ (((a.size+b.size:Nat):Int)>IntKind.i64.max):=by
    have:IntKind.i64.max=9223372036854775807:=by decide
    omega
   exact⟨by simp only[hg,Sem.run_bind,Sem.run_pure,Result.andThen_ok,binOp,Op.stringOp];rw[if_neg hm];rfl,.str _⟩
 ·rename_i xs ys
  split at h
  case isFalse=>cases h
  rename_i hc
  obtain⟨hgd,hag⟩:=hc
  split at h
  case h_2=>cases h
  rename_i ks hks
  split at h
  case h_2=>cases h
  rename_i bb hb
  obtain⟨xs',rfl,hx1⟩:=agg_cells hx
  obtain⟨ys',rfl,hy1⟩:=agg_cells hy
  -- the world's cells are the machine's own
  have same:∀ {ks:List Lf} {b:Bool} {l m l' m':List Value},eqc ks l m=some b→VRs M l l'→VRs M m m'→l'=l∧m'=m:=by
   intro ks
   induction ks with
   | nil=>
    intro b l m l' m' h hl hm
    obtain⟨e1,e2⟩:=eqc_len h
    have a1:l=[]:=List.eq_nil_of_length_eq_zero e1
    have a2:m=[]:=List.eq_nil_of_length_eq_zero e2
    subst a1;subst a2
    exact⟨List.eq_nil_of_length_eq_zero (by have:=hl.1;simpa using this.symm),List.eq_nil_of_length_eq_zero (by have:=hm.1;simpa using this.symm)⟩
   | cons k ks ih=>
    intro b l m l' m' h hl hm
    cases l with
    | nil=>cases m <;> cases h
    | cons x l=>
     cases m with
     | nil=>cases h
     | cons y m=>
      simp only[eqc] at h
      split at h
      case h_2=>cases h
      rename_i b1 b2 h1 h2
      cases l' with
      | nil=>have:=hl.1;simp at this
      | cons x' l'=>
       cases m' with
       | nil=>have:=hm.1;simp at this
       | cons y' m'=>
        obtain⟨r1,r2⟩:=ih h2 (l':=l') (m':=m') ⟨by have:=hl.1;simpa using this,fun i v v' a b=>hl.2 (i+1) v v' (by simpa using a) (by simpa using b)⟩ ⟨by have:=hm.1;simpa using this,fun i v v' a b=>hm.2 (i+1) v v' (by simpa using a) (by simpa using b)⟩
        have q1:=hl.2 0 x x' rfl rfl
        have q2:=hm.2 0 y y' rfl rfl
        subst r1;subst r2
        unfold eq1 at h1
        split at h1
        ·exact⟨by rw[q1.int_inv],by rw[q2.int_inv]⟩
        ·exact⟨by rw[q1.bool_inv],by rw[q2.bool_inv]⟩
        ·exact⟨by rw[q1.str_inv],by rw[q2.str_inv]⟩
        ·cases h1
  obtain⟨e1,e2⟩:=same hb hx1.1 hy1.1
  have hrun:=flat_eq (P:=P) 16 t ks hks 10000 (by omega) xs.toList ys.toList bb hb (.agg xs') (.agg ys') (.inl ⟨hag,by congr 1;apply Array.ext';simpa using e1⟩) (.inl ⟨hag,by congr 1;apply Array.ext';simpa using e2⟩) w
  have hg:=run_eqGuard_agg (P:=P) w op t px py xs' ys' hgd
  split at h
  case h_3=>cases h
  ·cases h
   exact⟨by simp[hg,run_eql_struct,hrun],.bool _⟩
  ·cases h
   exact⟨by simp[hg,run_neq_struct,hrun],.bool _⟩
 ·rename_i a la ea
  split at h
  case isFalse=>cases h
  rename_i hu
  obtain⟨el,hu⟩:=tslc_und hu
  have hy':y'=.slice none 0 0:=by cases hy;rfl
  subst hy'
  have hx':∃ a' l' c',x'=.slice a' l' c'∧a'.isNone=a.isNone:=by
   cases hx
   ·exact⟨_,_,_,rfl,rfl⟩
   ·exact⟨_,_,_,rfl,rfl⟩
   ·exact⟨_,_,_,rfl,rfl⟩
   ·exact⟨_,_,_,rfl,rfl⟩
  obtain⟨a',l',c',rfl,e⟩:=hx'
  split at h
  case h_3=>cases h
  ·cases h
   have hg:eqGuard .eql t px py (.slice a' l' c') (.slice none 0 0)=pure ():=rfl
   exact⟨by simp[hg,run_eql_slice_nil w t el a' l' c' hu,e],.bool _⟩
  ·cases h
   have hg:eqGuard .neq t px py (.slice a' l' c') (.slice none 0 0)=pure ():=rfl
   exact⟨by simp[hg,run_neq_slice_nil w t el a' l' c' hu,e],.bool _⟩
 ·cases h

def aun (op:UnOp) (x:Value):Option Value:=
 match op,x with
 | .neg,.int k n=>some (.int k (k.wrap (0 - n)))
 | .xor,.int k n=>some (.int k (bits .xor k (if k.signed then -1 else k.max) n))
 | .not,.bool b=>some (.bool !b)
 | _,_=>none

theorem aun_ok {P:Program} {M:Mp} {op:UnOp} {x x' v:Value} (hx:VR M x x') (h:aun op x=some v) (w:World):(Op.unary op x').run P w=.ok v w∧VR M v v:=by
 unfold aun at h
 split at h
 ·have:=hx.int_inv;subst this;cases h;exact⟨by simp[Op.unary,Op.intArith],.int _ _⟩
 ·have:=hx.int_inv;subst this;cases h;exact⟨by simp[Op.unary,Op.intBits,bits],.int _ _⟩
 ·have:=hx.bool_inv;subst this;cases h;exact⟨by simp[Op.unary],.bool _⟩
 ·cases h

def aconv (P:Program) (src dst:TypeId) (x:Value):Option Value:=
 match x with
 | .int _ n=>match tkind P dst with
  | some k=>if (P.underlying src).isSome=true then some (.int k (k.wrap n)) else none
  | none=>none
 | .string s=>if tstr P dst=true∧tstr P src=true then some x else none
 | _=>none

theorem tkind_und {P:Program} {t:TypeId} {k:IntKind} (h:tkind P t=some k):P.underlying t=some (.int k):=by
 unfold tkind at h
 split at h
 ·cases h;assumption
 ·cases h

theorem aconv_ok {P:Program} {M:Mp} {src dst:TypeId} {x x' v:Value} (hx:VR M x x') (h:aconv P src dst x=some v) (w:World):(convert src dst x').run P w=.ok v w∧VR M v v:=by
 unfold aconv at h
 split at h
 ·have:=hx.int_inv;subst this
  split at h
  case h_2=>cases h
  rename_i k hk
  split at h
  case isFalse=>cases h
  rename_i hs
  cases h
  obtain⟨d,hd⟩:=Option.isSome_iff_exists.1 hs
  exact⟨by simp[convert,run_underlying hd,run_underlying (tkind_und hk),Conv.intToInt],.int _ _⟩
 ·have:=hx.str_inv;subst this
  split at h
  case isFalse=>cases h
  rename_i hc
  cases h
  exact⟨by simp[convert,run_underlying (tstr_und hc.1),run_underlying (tstr_und hc.2)],.str _⟩
 ·cases h

/-! ### strings and rows of bytes -/
/-- The cells of a string's bytes. -/
def strC (s:ByteArray):List Value:=s.data.toList.map fun b=>.int .u8 b.toNat
theorem strC_len (s:ByteArray):(strC s).length=s.size:=by unfold strC;rw[List.length_map,Array.length_toList];rfl
def astrb (P:Program) (src dst:TypeId) (x:Value):Option (List Value × Nat):=
 match x with
 | .string s=>match tslice P dst with
  | some e=>if tkind P e=some .u8∧tstr P src=true then some (strC s,s.size) else none
  | none=>none
 | _=>none
theorem gives_strb {P:Program} {N0:Nat} {H:AH} {R:Option (List Nat)} {M:Mp} {w:World} (p:Pre N0 H R M w) {src dst:TypeId} {x x':Value} {cs:List Value} {n:Nat} (hx:VR M x x') (h:astrb P src dst x=some (cs,n)) :
  Gives N0 H (H++[⟨cs,0,true⟩]) [] M w (sl H.length 0 0 n 1) ((convert src dst x').run P w):=by
 unfold astrb at h
 split at h
 case h_2=>cases h
 rename_i s
 have:=hx.str_inv;subst this
 split at h
 case h_2=>cases h
 rename_i e ht
 split at h
 case isFalse=>cases h
 rename_i hc
 cases h
 have hrun:=run_bytes_of_string (P:=P) w src dst e s (tstr_und hc.2) (tslice_und ht) (tkind_und hc.1)
 have hge:=grownCap_ge w s.size 0 e
 have hsz:(bytesRow s (grownCap w s.size 0 e)).size=grownCap w s.size 0 e:=by
  unfold bytesRow
  rw[Array.size_append,Array.size_map,Array.size_replicate]
  show s.size+_=_
  omega
 refine⟨_,_,mset M H.length 0 (w.heap.size,0,(bytesRow s (grownCap w s.size 0 e)).size),hrun,?_,Post.new_fr (w1:=w.drew) p _ _ e true _ (.inr ⟨Nat.le_refl _,Nat.le_succ _⟩) rfl rfl rfl rfl (fun j v hv=>?_)⟩
 ·have:=VR.sl (M:=mset M H.length 0 (w.heap.size,0,(bytesRow s (grownCap w s.size 0 e)).size)) (off:=0) (len:=s.size) (e:=1) (cap:=grownCap w s.size 0 e) (mset_same _ _ _ _) hge (by omega)
  simpa using this
 ·have hj:j<s.size:=by
   have:=(List.getElem?_eq_some_iff.1 hv).1
   rwa [strC_len] at this
  have hj2:j<(s.data.map fun b=>Value.int .u8 b.toNat).size:=by simpa using hj
  have h2:(bytesRow s (grownCap w s.size 0 e))[j]?=some v:=by
   unfold bytesRow
   rw[Array.getElem?_append_left hj2]
   unfold strC at hv
   rw[← hv]
   simp
  unfold strC at hv
  rw[List.getElem?_map] at hv
  cases hb:s.data.toList[j]? with
  | none=>rw[hb] at hv;cases hv
  | some b=>
   rw[hb] at hv;cases hv
   exact⟨rfl,_,h2,.int _ _⟩
/-- Cells that are bytes. -/
def u8s:List Value→Option (List Int)
 | []=>some []
 | .int .u8 n::r=>(u8s r).map (n::·)
 | _=>none
theorem u8s_eq:∀ {cs:List Value} {xs:List Int},u8s cs=some xs→cs=xs.map (Value.int .u8)
 | [],xs,h=>by cases h;rfl
 | v::r,xs,h=>by
  unfold u8s at h
  split at h
  ·rename_i e;cases e
  ·rename_i n r' e
   cases e
   cases hr:u8s r with
   | none=>rw[hr] at h;cases h
   | some ys=>rw[hr] at h;cases h;rw[u8s_eq hr];rfl
  ·cases h
def abstr (P:Program) (H:AH) (src dst:TypeId) (x:Value):Option (Value × List Nat):=
 match tslice P src with
 | some e=>if tkind P e=some .u8∧tstr P dst=true then
   match asrc H 1 x with
   | some (cs,_,bs)=>(u8s cs).map fun xs=>(.string (strOfNums xs),bs)
   | none=>none
  else none
 | none=>none
theorem run_abstr {P:Program} {N0:Nat} {H:AH} {R:Option (List Nat)} {M:Mp} {w:World} (p:Pre N0 H R M w) {src dst:TypeId} {x x' v:Value} {bs:List Nat} (hx:VR M x x') (h:abstr P H src dst x=some (v,bs)) (hR:∀ b∈bs,inR R b) :
  (convert src dst x').run P w=.ok v w∧VR M v v:=by
 unfold abstr at h
 split at h
 case h_2=>cases h
 rename_i e ht
 split at h
 case isFalse=>cases h
 rename_i hc
 split at h
 case h_2=>cases h
 rename_i cs n bs' hsrc
 cases hu:u8s cs with
 | none=>rw[hu] at h;cases h
 | some xs=>
 rw[hu] at h
 cases h
 have hcs:=u8s_eq hu
 have hs':=tslice_und ht
 have he':=tkind_und hc.1
 have hd':=tstr_und hc.2
 refine⟨?_,.str _⟩
 have zero:cs=[]→∀ a c,x'=.slice a 0 c→(convert src dst x').run P w=.ok (.string (strOfNums xs)) w:=by
  rintro rfl a c rfl
  cases xs with
  | cons y ys=>cases hcs
  | nil=>
   cases a with
   | none=>rw[run_convert_bytes_string w src dst e none 0 c hs' he' hd'];rfl
   | some a=>
    rw[run_convert_bytes_string w src dst e (some a) 0 c hs' he' hd',run_bytesToString w a 0 c [] (run_loadCells_list (P:=P) w a [] (fun j v hj=>by simp at hj))]
    rfl
 unfold asrc at hsrc
 split at hsrc
 ·cases hsrc
  obtain⟨a,c,rfl⟩:=hx.slice_len
  exact zero rfl _ _ rfl
 ·rename_i b off g n' e1
  split at hsrc
  case isFalse=>cases hsrc
  rename_i he1
  subst he1
  split at hsrc
  ·rename_i hn
   subst hn
   cases hsrc
   obtain⟨a,c,rfl⟩:=hx.slice_len
   exact zero rfl _ _ rfl
  ·rename_i hn
   split at hsrc
   case h_2=>cases hsrc
   rename_i k hk
   split at hsrc
   case isFalse=>cases hsrc
   rename_i hc2
   obtain⟨rfl,hlen⟩:=hc2
   cases hsrc
   rcases hx.sl_inv with ⟨c,o,m,cap,hM,h1,h2,rfl⟩|⟨h0,_⟩
   case inr=>exact absurd h0 hn
   obtain⟨hcell,_⟩:=cell_at p (hR b (by simp)) hk rfl hM
   obtain⟨vs,l1,l2,l3⟩:=cells_at hcell off (n*1) hlen
   have hvs:vs=xs.map (Value.int .u8):=by
    have hl3:=l3.1
    rw[hcs] at hl3
    refine List.ext_getElem? fun i=>?_
    have hlen1:=hl3.1
    by_cases hi:i<xs.length
    ·have hx1:(xs.map (Value.int .u8))[i]?=some (.int .u8 xs[i]):=by simp[hi]
     obtain⟨v',q1,q2⟩:=hl3.get hx1
     have:=q2.int_inv;subst this
     rw[q1,hx1]
    ·rw[List.getElem?_eq_none (by simp at hlen1;omega),List.getElem?_eq_none (by simpa using hi)]
   have hxl:xs.length=n:=by
    have:=congrArg List.length hvs
    simp at this;omega
   refine run_convert_bytes_arg w src e hs' he' c (o+off) n cap xs hxl (fun i hi=>?_) dst hd'
   have hil:i<xs.length:=by rw[hxl];exact hi
   have hx1:(xs.map (Value.int .u8))[i]?=some (.int .u8 xs[i]):=by simp[hil]
   have q:=l2 i (.int .u8 xs[i]) ((congrArg (·[i]?) hvs).trans hx1)
   have hd:xs.getD i 0=xs[i]:=by simp[List.getD,hil]
   rw[hd,← q]
   try rfl
 ·cases hsrc
  obtain⟨a,c,rfl⟩:=hx.slice_len
  exact zero rfl _ _ rfl
 ·cases hsrc

/-- A row of bytes that is taken for a string's bytes: the world marks it. -/
def amark (P:Program) (H:AH) (src dst:TypeId) (x:Value):Option Nat:=
 match x with
 | .slice (some ⟨b,_,some g⟩) n _=>match H[b]?,tslice P dst with
  | some k,some e=>if src=dst∧tkind P e=some .u8∧k.rw=true∧g=k.gen∧0<n then some b else none
  | _,_=>none
 | _=>none
theorem gives_mark {P:Program} {N0:Nat} {H:AH} {R:Option (List Nat)} {M:Mp} {w:World} (p:Pre N0 H R M w) {src dst:TypeId} {x x':Value} {b:Nat} (hx:VR M x x') (h:amark P H src dst x=some b) (hR:inR R b) :
  Gives N0 H H [b] M w x ((convert src dst x').run P w):=by
 unfold amark at h
 split at h
 case h_2=>cases h
 rename_i b' off g n e0
 split at h
 case h_2=>cases h
 rename_i k e hk ht
 split at h
 case isFalse=>cases h
 rename_i hc
 obtain⟨rfl,hke,hrw,rfl,hn⟩:=hc
 cases h
 have hu:=tslice_und ht
 rcases hx.sl_inv with ⟨c,o,m,cap,hM,h1,h2,rfl⟩|⟨h0,_⟩
 case inr=>omega
 obtain⟨hcell,hN⟩:=cell_at p hR hk rfl hM
 have hN:=hN hrw
 obtain⟨⟨ccs,ce,cfr,hb1,hb2,hbf⟩,hfz⟩:=p.hp.own hM hN
 obtain⟨c0,o0,n0,e00,hg0,hcr0,hn0⟩:=p.cont hR hk ⟨_,_,hM⟩
 have hall:∀ g c' o' n',M b g=some (c',o',n')→N0≤c':=fun g c' o' n' h=>p.hp.hom hM h hN
 have hsh:w.shape? c=some (ce,ccs.size):=by unfold World.shape?;rw[hb1]
 have hrun:(convert src src (.slice (some ⟨c,o+off,none⟩) n cap)).run P w=.ok (.slice (some ⟨c,o+off,none⟩) n cap) (w.freeze ⟨c,ccs.size,none⟩ 1):=by
  simp[convert,run_underlying hu,run_underlying (tkind_und hke),markStringish,hsh]
 have hheap:(w.freeze ⟨c,ccs.size,none⟩ 1).heap=w.heap.modify c (fun | .cells c elem (lo,hi)=>.cells c elem (if lo==hi then (ccs.size,ccs.size+1) else (min lo ccs.size,max hi (ccs.size+1)))|o=>o):=by
  unfold World.freeze;rw[if_neg (by decide)];rfl
 have hfar:∀ c',c'≠c→(w.freeze ⟨c,ccs.size,none⟩ 1).heap[c']?=w.heap[c']?:=fun c' hc'=>by
  rw[hheap,Array.getElem?_modify,if_neg (fun e=>hc' e.symm)]
 obtain⟨lo,hi⟩:=cfr
 have hbf:lo≤hi:=hbf
 have hnew:(w.freeze ⟨c,ccs.size,none⟩ 1).heap[c]?=some (.cells ccs ce (if lo==hi then (ccs.size,ccs.size+1) else (min lo ccs.size,max hi (ccs.size+1)))):=by
  rw[hheap,Array.getElem?_modify,if_pos rfl,hb1];rfl
 have hlo:lo=hi∨ccs.size≤lo:=by
  by_cases e:lo=hi
  ·exact .inl e
  ·by_cases e':ccs.size≤lo
   ·exact .inr e'
   ·have:=hfz lo (by omega)
    simp[World.frozen?,hb1] at this
    omega
 have hfr:∃ fr:Nat × Nat,(w.freeze ⟨c,ccs.size,none⟩ 1).heap[c]?=some (.cells ccs ce fr)∧ccs.size≤fr.1∧fr.1≤fr.2:=by
  refine⟨_,hnew,?_⟩
  rcases hlo with rfl|hlo
  ·simp
  ·by_cases e:lo=hi
   ·subst e;simp
   ·have:(lo==hi)=false:=by simpa using e
    rw[this]
    simp only[Bool.false_eq_true,↓reduceIte]
    omega
 obtain⟨fr,hnew,hf1,hf2⟩:=hfr
 have hcl:∀ i,(w.freeze ⟨c,ccs.size,none⟩ 1).cell? ⟨c,i,none⟩=w.cell? ⟨c,i,none⟩:=fun i=>by
  rw[cell_of_row _ _ _ _ _ _ hnew,cell_of_row _ _ _ _ _ _ hb1]
 generalize hw':w.freeze ⟨c,ccs.size,none⟩ 1=w' at *
 refine⟨_,w',M,hrun,hx,⟨Nat.le_refl _,fun _ _ _=>rfl,MLe.refl _,fun _ _ _ _=>rfl,p.dom,fun _ _ h=>h,fun h=>.inr ⟨_,h⟩,fun c' hc' hW=>hfar c' (fun e=>hW b (by simp) k.gen o m (by rw[e];exact hM)),fun b' hb'=>?_,⟨fun h=>?_,fun {b' g' c' o' n'} h hN'=>?_,fun h h' hN=>p.hp.inj h h' hN,fun h h' hN=>p.hp.hom h h' hN⟩,fun {b' k'} hb' hk' hx'=>?_,?_,?_,?_,?_⟩⟩
 ·simp at hb';subst hb';exact⟨⟨_,_,hM⟩,hall⟩
 ·have:=p.hp.lt h;rw[hheap];simpa using this
 ·obtain⟨g1,g2⟩:=p.hp.own h hN'
  by_cases hcc:c'=c
  ·subst hcc
   obtain⟨cs1,e1,fr1,f1,f2,_⟩:=g1
   rw[hb1] at f1;cases f1
   refine⟨⟨ccs,ce,fr,hnew,f2,hf2⟩,fun i hi=>?_⟩
   have hni:¬ fr.1≤i:=by omega
   simp[World.frozen?,hnew,hni]
  ·exact⟨by rw[hfar _ hcc];exact g1,fun i hi=>by rw[← g2 i hi];exact frozen_keep (hfar _ hcc)⟩
 ·rcases hb' with hb'|hb'
  ·simp at hb';subst hb'
   rw[hk] at hk';cases hk'
   rw[hM] at e00;cases e00
   refine⟨c,o,m,hM,hg0,fun i v hv=>?_,hn0⟩
   obtain⟨q1,v',q2,q3⟩:=hcr0 i v hv
   exact⟨q1,v',by rw[hcl];exact q2,q3⟩
  ·rw[List.getElem?_eq_none hb'] at hk';cases hk'
 ·rw[hheap];simp
 all_goals (rw[← hw'];unfold World.freeze;rw[if_neg (by decide)])

def amin (big:Bool):Value→List Value→Option Value
 | .int k x,[]=>some (.int k x)
 | .int k x,.int _ y::r=>amin big (.int k (if big then (if y>x then y else x) else (if y<x then y else x))) r
 | _,_=>none

theorem amin_ok {P:Program} {M:Mp}:∀ {r r':List Value} {x x' v:Value},VR M x x'→VRs M r r'→amin false x r=some v→∀ w,(r'.foldlM Builtin.min2 x').run P w=.ok v w∧VR M v v
 | [],r',x,x',v,hx,hr,h,w=>by
  have:r'=[]:=List.eq_nil_of_length_eq_zero (by have:=hr.1;simpa using this.symm)
  subst this
  unfold amin at h
  split at h
  ·have:=hx.int_inv;subst this;cases h;exact⟨rfl,.int _ _⟩
  ·rename_i hh;cases hh
  ·cases h
 | y::r,[],x,x',v,hx,hr,h,w=>by have:=hr.1;simp at this
 | y::r,y'::r',x,x',v,hx,hr,h,w=>by
  unfold amin at h
  split at h
  ·rename_i hh;cases hh
  ·rename_i k a k' b r0 hh
   cases hh
   have:=hx.int_inv;subst this
   have hy:=hr.2 0 (.int k' b) y' rfl rfl
   have:=hy.int_inv;subst this
   simp only[Bool.false_eq_true,if_false] at h
   have ih:=amin_ok (P:=P) (.int k (if b<a then b else a)) (r':=r') ⟨by have:=hr.1;simpa using this,fun i v v' a b=>hr.2 (i+1) v v' (by simpa using a) (by simpa using b)⟩ h w
   refine⟨?_,ih.2⟩
   rw[List.foldlM_cons,Sem.run_bind]
   simp only[Builtin.min2,Sem.run_pure,Result.andThen_ok]
   exact ih.1
  ·cases h

theorem amax_ok {P:Program} {M:Mp}:∀ {r r':List Value} {x x' v:Value},VR M x x'→VRs M r r'→amin true x r=some v→∀ w,(r'.foldlM Builtin.max2 x').run P w=.ok v w∧VR M v v
 | [],r',x,x',v,hx,hr,h,w=>by
  have:r'=[]:=List.eq_nil_of_length_eq_zero (by have:=hr.1;simpa using this.symm)
  subst this
  unfold amin at h
  split at h
  ·have:=hx.int_inv;subst this;cases h;exact⟨rfl,.int _ _⟩
  ·rename_i hh;cases hh
  ·cases h
 | y::r,[],x,x',v,hx,hr,h,w=>by have:=hr.1;simp at this
 | y::r,y'::r',x,x',v,hx,hr,h,w=>by
  unfold amin at h
  split at h
  ·rename_i hh;cases hh
  ·rename_i k a k' b r0 hh
   cases hh
   have:=hx.int_inv;subst this
   have hy:=hr.2 0 (.int k' b) y' rfl rfl
   have:=hy.int_inv;subst this
   simp only[if_true] at h
   have ih:=amax_ok (P:=P) (.int k (if b>a then b else a)) (r':=r') ⟨by have:=hr.1;simpa using this,fun i v v' a b=>hr.2 (i+1) v v' (by simpa using a) (by simpa using b)⟩ h w
   refine⟨?_,ih.2⟩
   rw[List.foldlM_cons,Sem.run_bind]
   simp only[Builtin.max2,Sem.run_pure,Result.andThen_ok]
   exact ih.1
  ·cases h

/-! ### all steps -/
structure Foot where
 w:List Nat
 r:Option (List Nat)

def astep (P:Program) (T:Env) (H:AH) (op:Op):Option (Value × AH × Foot):=
 match op with
 | .move x=>(ev T x).map (·,H,⟨[],some []⟩)
 | .assign x=>(ev T x).map (·,H,⟨[],some []⟩)
 | .pick c a b=>match ev T c,ev T a,ev T b with
  | some (.bool t),some x,some y=>some (if t then x else y,H,⟨[],some []⟩)
  | _,_,_=>none
 | .alloc e=>(tzero P e).map fun z=>(ap H.length 0 0,H++[⟨z,0,true⟩],⟨[],some []⟩)
 | .box _ x=>match ev T x with
  | some v=>(cellsL v).map fun cs=>(ap H.length 0 0,H++[⟨cs,0,true⟩],⟨[],some []⟩)
  | none=>none
 | .build t ps=>match evp T ps.toList with
  | some vs=>(abuild P t vs).map (·,H,⟨[],some []⟩)
  | none=>none
 | .buildSlice t n ps=>match evp T ps.toList with
  | some vs=>(abuildSlice P t n vs).map fun (cs,s)=>(sl H.length 0 0 n s,H++[⟨cs,0,true⟩],⟨[],some []⟩)
  | none=>none
 | .load t x=>match ev T x with
  | some v=>(aload P H t v).map fun (u,b)=>(u,H,⟨[],some [b]⟩)
  | none=>none
 | .store t x y=>match ev T x,ev T y with
  | some v,some u=>(astore P H t v u).map fun (H',b)=>(undef,H',⟨[b],some [b]⟩)
  | _,_=>none
 | .nilCheck x=>match ev T x with
  | some (.pointer (some a))=>some (.pointer (some a),H,⟨[],some []⟩)
  | some (.func (.func f) xs zs)=>some (.func (.func f) xs zs,H,⟨[],some []⟩)
  | _=>none
 | .binOp op t x y _=>match ev T x,ev T y with
  | some v,some u=>(abin P op t v u).map (·,H,⟨[],some []⟩)
  | _,_=>none
 | .unOp op _ x=>match ev T x with
  | some v=>(aun op v).map (·,H,⟨[],some []⟩)
  | none=>none
 | .convert s d x=>match ev T x with
  | some v=>match aconv P s d v with
   | some u=>some (u,H,⟨[],some []⟩)
   | none=>match astrb P s d v with
    | some (cs,n)=>some (sl H.length 0 0 n 1,H++[⟨cs,0,true⟩],⟨[],some []⟩)
    | none=>match abstr P H s d v with
     | some (u,bs)=>some (u,H,⟨[],some bs⟩)
     | none=>(amark P H s d v).map fun b=>(v,H,⟨[b],some [b]⟩)
  | none=>none
 | .makeFunc fn first captured=>match evs T first.toList,evs T captured.toList with
  | some xs,some zs=>some (.func fn xs.toArray zs.toArray,H,⟨[],some []⟩)
  | _,_=>none
 | .makeSlice t l c=>match ev T l,ev T c with
  | some v,some u=>(amake P t v u).map fun (cs,s,n)=>(sl H.length 0 0 n s,H++[⟨cs,0,true⟩],⟨[],some []⟩)
  | _,_=>none
 | .slice t x lo hi mx=>match ev T x,evo T lo,evo T hi,evo T mx with
  | some v,some l,some h,some m=>match aslice P t v l h m with
   | some u=>some (u,H,⟨[],some []⟩)
   | none=>if m.isNone=true then (aslicep P H t v l h).map fun (u,b)=>(u,H,⟨[],some [b]⟩) else none
  | _,_,_,_=>none
 | .fieldAddr t x f=>match ev T x with
  | some v=>(afield P t f v).map (·,H,⟨[],some []⟩)
  | none=>none
 | .field t x f=>match ev T x with
  | some v=>(afieldv P t f v).map (·,H,⟨[],some []⟩)
  | none=>none
 | .indexAddr t x i=>match ev T x,ev T i with
  | some v,some u=>(aindex P t v u).map (·,H,⟨[],some []⟩)
  | _,_=>none
 | .index t x i=>match ev T x,ev T i with
  | some v,some u=>(aindexv P t v u).map (·,H,⟨[],some []⟩)
  | _,_=>none
 | .extract x i=>match ev T x with
  | some (.tuple vs)=>(vs.toList[i]?).map (·,H,⟨[],some []⟩)
  | _=>none
 | .call c=>match c.callee with
  | .builtin .len=>match c.argTypes.toList,evs T c.args.toList with
   | [t],some [x]=>(alen P t x).map (·,H,⟨[],some []⟩)
   | _,_=>none
  | .builtin .append=>match c.argTypes.toList,evs T c.args.toList with
   | [t,t'],some [x,y]=>(aapp2 P H t t' x y).map fun (v,H',W,rs)=>(v,H',⟨W,some rs⟩)
   | _,_=>none
  | .builtin .min=>match evs T c.args.toList with
   | some (x::r)=>(amin false x r).map (·,H,⟨[],some []⟩)
   | _=>none
  | .builtin .max=>match evs T c.args.toList with
   | some (x::r)=>(amin true x r).map (·,H,⟨[],some []⟩)
   | _=>none
  | .builtin .cap=>match c.argTypes.toList,evs T c.args.toList with
   | [t],some [x]=>(acap P t x).map (·,H,⟨[],some []⟩)
   | _,_=>none
  | _=>none
 | _=>none

theorem evs_rel {M:Mp} {sz:Nat} {T:Env} {a:Act} (h:ActR M sz T a):∀ {xs:List Operand} {vs:List Value},evs T xs=some vs→VRs M vs (xs.map a.eval)
 | [],vs,e=>by cases e;exact VRs.nil
 | x::xs,vs,e=>by
  simp only[evs] at e
  split at e
  case h_2=>cases e
  rename_i v us h1 h2
  cases e
  exact VRs.cons (ev_rel h h1) (evs_rel h h2)

theorem evo_rel {M:Mp} {sz:Nat} {T:Env} {a:Act} (h:ActR M sz T a) {x:Option Operand} {v:Option Value} (e:evo T x=some v):ORel M v (x.map a.eval):=by
 cases x with
 | none=>cases e;exact .inl ⟨rfl,rfl⟩
 | some x=>
  simp only[evo] at e
  cases hx:ev T x with
  | none=>rw[hx] at e;cases e
  | some u=>rw[hx] at e;cases e;exact .inr ⟨_,_,rfl,rfl,ev_rel h hx⟩

/-- What an operation comes to in the world. -/
def Does (P:Program) (N0:Nat) (H H':AH) (W:List Nat) (M:Mp) (w:World) (v:Value) (r:Result Next):Prop:=
 ∃ v' w' M',(r=.ok (.value v') w'∨(r=.ok .skip w'∧v'=undef))∧VR M' v v'∧Post N0 H H' W M M' w w'

theorem Does.of_gives {P:Program} {N0:Nat} {H H':AH} {W:List Nat} {M:Mp} {w:World} {v:Value} {s:Sem Value} (h:Gives N0 H H' W M w v (s.run P w)) :
  Does P N0 H H' W M w v ((do pure (.value (← s)):Sem Next).run P w):=by
 obtain⟨v',w',M',h1,h2,h3⟩:=h
 refine⟨v',w',M',.inl ?_,h2,h3⟩
 simp only[Sem.run_bind,h1,Result.andThen_ok,Sem.run_pure]

theorem Does.of_run {P:Program} {N0:Nat} {H:AH} {R:Option (List Nat)} {M:Mp} {w:World} (p:Pre N0 H R M w) {v v':Value} {s:Sem Value} (h:s.run P w=.ok v' w) (hv:VR M v v') :
  Does P N0 H H [] M w v ((do pure (.value (← s)):Sem Next).run P w):=Does.of_gives (Gives.same p h hv)

theorem list_one {α:Type} {l:List α} {a:Array α} {x:α} (h:a.toList=[x]):a = #[x]:=by apply Array.ext';simpa using h
theorem list_two {α:Type} {a:Array α} {x y:α} (h:a.toList=[x,y]):a = #[x,y]:=by apply Array.ext';simpa using h

end Go.Proofs.YthhbglkokpablaaGreat.E
/- Each step of the machine that calls nothing is what the world does. -/
set_option linter.unusedVariables false
set_option linter.unusedSimpArgs false
namespace Go.Proofs.YthhbglkokpablaaGreat.E
open Go Go.RowKit

theorem inR_one {b:Nat}:inR (some [b]) b:=by simp[inR]

theorem gives_lit {P:Program} {N0:Nat} {H:AH} {R:Option (List Nat)} {M:Mp} {w:World} {sz:Nat} {T:Env} {a:Act} (ha:ActR M sz T a) (p:Pre N0 H R M w) {t:TypeId} {n s:Nat} {ps:Array (Nat × Operand)} {vs:List (Nat × Value)} {cs:List Value}
  (hvs:evp T ps.toList=some vs) (hb:abuildSlice P t n vs=some (cs,s)) :
  Gives N0 H (H++[⟨cs,0,true⟩]) [] M w (sl H.length 0 0 n s) ((Instr.buildSlice t n (ps.map fun (i,x)=>(i,a.eval x))).run P w):=by
 obtain⟨l1,l2⟩:=evp_rel ha hvs
 have e:(ps.map fun (i,x)=>(i,a.eval x)).toList=ps.toList.map fun (i,x)=>(i,a.eval x):=by simp
 refine gives_buildSlice p ?_ ?_ hb
 ·rw[e];exact l1
 ·rw[e];exact l2

theorem run_agg {P:Program} {M:Mp} {sz:Nat} {T:Env} {a:Act} (ha:ActR M sz T a) {t:TypeId} {ps:Array (Nat × Operand)} {vs:List (Nat × Value)} {v:Value}
  (hvs:evp T ps.toList=some vs) (hb:abuild P t vs=some v) (w:World) :
  ∃ v',(Instr.build t (ps.map fun (i,x)=>(i,a.eval x))).run P w=.ok v' w∧VR M v v':=by
 obtain⟨l1,l2⟩:=evp_rel ha hvs
 have e:(ps.map fun (i,x)=>(i,a.eval x)).toList=ps.toList.map fun (i,x)=>(i,a.eval x):=by simp
 refine run_abuild ?_ ?_ hb w
 ·rw[e];exact l1
 ·rw[e];exact l2

set_option maxHeartbeats 1000000 in
theorem astep_ok {P:Program} {N0:Nat} {H H':AH} {F:Foot} {M:Mp} {w:World} {sz:Nat} {T:Env} {a:Act} (ha:ActR M sz T a) {o:Oper} {v:Value} (h:astep P T H o.op=some (v,H',F)) (p:Pre N0 H F.r M w) :
  Does P N0 H H' F.w M w v ((execOp a.eval o).run P w):=by
 obtain⟨dst,op,type,pos,after,guard⟩:=o
 simp only at h
 unfold astep at h
 split at h
 ·-- move
  rename_i x
  cases hx:ev T x with
  | none=>rw[hx] at h;cases h
  | some u=>rw[hx] at h;cases h;exact⟨_,w,M,.inl rfl,ev_rel ha hx,Post.still p rfl rfl rfl rfl⟩
 ·rename_i x
  cases hx:ev T x with
  | none=>rw[hx] at h;cases h
  | some u=>rw[hx] at h;cases h;exact⟨_,w,M,.inl rfl,ev_rel ha hx,Post.still p rfl rfl rfl rfl⟩
 ·-- pick
  rename_i c x y
  split at h
  case h_2=>cases h
  rename_i t u1 u2 h1 h2 h3
  cases h
  have hc:=ev_rel ha h1
  have hb:=hc.bool_inv
  refine⟨if t then a.eval x else a.eval y,w,M,.inl ?_,?_,Post.still p rfl rfl rfl rfl⟩
  ·simp[execOp,hb,asBool]
  ·cases t
   ·simpa using ev_rel ha h3
   ·simpa using ev_rel ha h2
 ·-- alloc
  rename_i e
  cases hz:tzero P e with
  | none=>rw[hz] at h;cases h
  | some z=>
   rw[hz] at h;cases h
   have q:=gives_alloc p hz
   exact Does.of_gives (P:=P) q
 ·-- box
  rename_i e x
  split at h
  case h_2=>cases h
  rename_i u hu
  cases hc:cellsL u with
  | none=>rw[hc] at h;cases h
  | some cs=>
   rw[hc] at h;cases h
   have q:=gives_box (P:=P) (e:=e) p hc (ev_rel ha hu)
   exact Does.of_gives (P:=P) q
 ·-- build
  rename_i t ps
  split at h
  case h_2=>cases h
  rename_i vs hvs
  cases hb:abuild P t vs with
  | none=>rw[hb] at h;cases h
  | some u=>
   rw[hb] at h;cases h
   obtain⟨v',r1,r2⟩:=run_agg ha hvs hb w
   exact Does.of_run (s:=Instr.build t (ps.map fun (i,x)=>(i,a.eval x))) p r1 r2
 ·-- buildSlice
  rename_i t n ps
  split at h
  case h_2=>cases h
  rename_i vs hvs
  cases hb:abuildSlice P t n vs with
  | none=>rw[hb] at h;cases h
  | some u=>
   obtain⟨cs,s⟩:=u
   rw[hb] at h;cases h
   have q:=gives_lit ha p hvs hb
   exact Does.of_gives (P:=P) q
 ·-- load
  rename_i t x
  split at h
  case h_2=>cases h
  rename_i u hu
  cases hl:aload P H t u with
  | none=>rw[hl] at h;cases h
  | some r=>
   obtain⟨u',b⟩:=r
   rw[hl] at h;cases h
   obtain⟨v',r1,r2⟩:=gives_load p (ev_rel ha hu) hl inR_one
   exact Does.of_run (s:=Instr.loadAt t (a.eval x)) p r1 r2
 ·-- store
  rename_i t x y
  split at h
  case h_2=>cases h
  rename_i u1 u2 h1 h2
  cases hs:astore P H t u1 u2 with
  | none=>rw[hs] at h;cases h
  | some r=>
   obtain⟨H1,b⟩:=r
   rw[hs] at h;cases h
   obtain⟨w',r1,r2⟩:=gives_store p (ev_rel ha h1) (ev_rel ha h2) hs inR_one
   refine⟨undef,w',M,.inr ⟨?_,rfl⟩,.undef,r2⟩
   simp[execOp,r1]
 ·-- nilCheck
  rename_i x
  split at h
  ·rename_i ad hx
   cases h
   have hv:=ev_rel ha hx
   have:∃ ad',a.eval x=.pointer (some ad'):=by
    generalize a.eval x=q at hv
    cases hv;exact⟨_,rfl⟩
   obtain⟨ad',e⟩:=this
   refine⟨a.eval x,w,M,.inl ?_,hv,Post.still p rfl rfl rfl rfl⟩
   simp[execOp,e]
  ·rename_i f xs zs hx
   cases h
   have hv:=ev_rel ha hx
   have:∃ xs' zs',a.eval x=.func (.func f) xs' zs':=by
    generalize a.eval x=q at hv
    cases hv;exact⟨_,_,rfl⟩
   obtain⟨xs',zs',e⟩:=this
   refine⟨a.eval x,w,M,.inl ?_,hv,Post.still p rfl rfl rfl rfl⟩
   simp[execOp,e]
  ·cases h
 ·-- binOp
  rename_i op t x y yt
  split at h
  case h_2=>cases h
  rename_i u1 u2 h1 h2
  cases hb:abin P op t u1 u2 with
  | none=>rw[hb] at h;cases h
  | some r=>
   rw[hb] at h;cases h
   have q:=abin_ok (P:=P) (ev_rel ha h1) (ev_rel ha h2) hb x y w
   exact Does.of_run (s:=(do eqGuard op t x y (a.eval x) (a.eval y);binOp op t (a.eval x) (a.eval y))) p q.1 q.2
 ·-- unOp
  rename_i op t x
  split at h
  case h_2=>cases h
  rename_i u hu
  cases hb:aun op u with
  | none=>rw[hb] at h;cases h
  | some r=>
   rw[hb] at h;cases h
   have q:=aun_ok (P:=P) (ev_rel ha hu) hb w
   exact Does.of_run (s:=Op.unary op (a.eval x)) p q.1 q.2
 ·-- convert
  rename_i s d x
  split at h
  case h_2=>cases h
  rename_i u hu
  split at h
  ·rename_i r hb
   cases h
   have q:=aconv_ok (P:=P) (ev_rel ha hu) hb w
   exact Does.of_run (s:=convert s d (a.eval x)) p q.1 q.2
  ·split at h
   ·rename_i cs n hb
    cases h
    exact Does.of_gives (P:=P) (s:=convert s d (a.eval x)) (gives_strb p (ev_rel ha hu) hb)
   ·split at h
    ·rename_i u' bs hb
     cases h
     have q:=run_abstr (P:=P) p (ev_rel ha hu) hb (fun b hb=>hb)
     exact Does.of_run (s:=convert s d (a.eval x)) p q.1 q.2
    ·cases hb:amark P H s d u with
     | none=>rw[hb] at h;cases h
     | some b=>
      rw[hb] at h;cases h
      exact Does.of_gives (P:=P) (s:=convert s d (a.eval x)) (gives_mark p (ev_rel ha hu) hb inR_one)
 ·-- makeFunc
  rename_i fn first captured
  split at h
  case h_2=>cases h
  rename_i xs zs h1 h2
  cases h
  have q1:=evs_rel ha h1
  have q2:=evs_rel ha h2
  have arr:∀ {l:List Value} {ar:Array Operand},VRs M l (ar.toList.map a.eval)→l.toArray.size=(ar.map a.eval).size∧∀ i (h1:i<l.toArray.size) (h2:i<(ar.map a.eval).size),VR M l.toArray[i] (ar.map a.eval)[i]:=by
   intro l ar q
   refine⟨by have:=q.1;simpa using this,fun i g1 g2=>?_⟩
   refine q.2 i _ _ ?_ ?_
   ·simp at g1;simp[g1]
   ·simp at g2;simp[g2]
  refine⟨.func fn (first.map a.eval) (captured.map a.eval),w,M,.inl ?_,?_,Post.still p rfl rfl rfl rfl⟩
  ·simp[execOp,Instr.makeFunc]
  ·exact .fn (arr q1).1 (arr q1).2 (arr q2).1 (arr q2).2
 ·-- makeSlice
  rename_i t l c
  split at h
  case h_2=>cases h
  rename_i u1 u2 h1 h2
  cases hb:amake P t u1 u2 with
  | none=>rw[hb] at h;cases h
  | some r=>
   obtain⟨cs,s,n⟩:=r
   rw[hb] at h;cases h
   have q:=gives_make p (ev_rel ha h1) (ev_rel ha h2) hb
   exact Does.of_gives (P:=P) q
 ·-- slice
  rename_i t x lo hi mx
  split at h
  case h_2=>cases h
  rename_i u l hh m h1 h2 h3 h4
  split at h
  ·rename_i r hb
   cases h
   obtain⟨v',r1,r2⟩:=run_aslice (P:=P) (ev_rel ha h1) (evo_rel ha h2) (evo_rel ha h3) (evo_rel ha h4) hb w
   exact Does.of_run (s:=Instr.sliceAt t (a.eval x) (lo.map a.eval) (hi.map a.eval) (mx.map a.eval)) p r1 r2
  ·rename_i hb
   split at h
   case isFalse=>cases h
   rename_i hm
   cases hp:aslicep P H t u l hh with
   | none=>rw[hp] at h;cases h
   | some r=>
    obtain⟨u',b⟩:=r
    rw[hp] at h;cases h
    obtain⟨v',r1,r2⟩:=run_aslicep p (ev_rel ha h1) (evo_rel ha h2) (evo_rel ha h3) hp inR_one
    have hmx:mx.map a.eval=none:=by
     have:=evo_rel ha h4
     rcases this with ⟨_,e⟩|⟨_,_,e,_⟩
     ·exact e
     ·rw[e] at hm;cases hm
    refine Does.of_run (s:=Instr.sliceAt t (a.eval x) (lo.map a.eval) (hi.map a.eval) (mx.map a.eval)) p ?_ r2
    rw[hmx]
    exact r1
 ·-- fieldAddr
  rename_i t x f
  split at h
  case h_2=>cases h
  rename_i u hu
  cases hb:afield P t f u with
  | none=>rw[hb] at h;cases h
  | some r=>
   rw[hb] at h;cases h
   obtain⟨v',r1,r2⟩:=run_afield (P:=P) (ev_rel ha hu) hb w
   exact Does.of_run (s:=Instr.fieldAt t (a.eval x) f) p r1 r2
 ·-- field
  rename_i t x f
  split at h
  case h_2=>cases h
  rename_i u hu
  cases hb:afieldv P t f u with
  | none=>rw[hb] at h;cases h
  | some r=>
   rw[hb] at h;cases h
   obtain⟨v',r1,r2⟩:=run_afieldv (P:=P) (ev_rel ha hu) hb w
   exact Does.of_run (s:=Instr.field t (a.eval x) f) p r1 r2
 ·-- indexAddr
  rename_i t x i
  split at h
  case h_2=>cases h
  rename_i u1 u2 h1 h2
  cases hb:aindex P t u1 u2 with
  | none=>rw[hb] at h;cases h
  | some r=>
   rw[hb] at h;cases h
   obtain⟨v',r1,r2⟩:=run_aindex (P:=P) (ev_rel ha h1) (ev_rel ha h2) hb w
   exact Does.of_run (s:=Instr.indexAt t (a.eval x) (a.eval i)) p r1 r2
 ·-- index
  rename_i t x i
  split at h
  case h_2=>cases h
  rename_i u1 u2 h1 h2
  cases hb:aindexv P t u1 u2 with
  | none=>rw[hb] at h;cases h
  | some r=>
   rw[hb] at h;cases h
   obtain⟨v',r1,r2⟩:=run_aindexv (P:=P) (ev_rel ha h1) (ev_rel ha h2) hb w
   exact Does.of_run (s:=Instr.index t (a.eval x) (a.eval i)) p r1 r2
 ·-- extract
  rename_i x i
  split at h
  case h_2=>cases h
  rename_i vs hx
  cases hb:vs.toList[i]? with
  | none=>rw[hb] at h;cases h
  | some r=>
   rw[hb] at h;cases h
   have hv:=ev_rel ha hx
   have:∃ ys,a.eval x=.tuple ys∧vs.size=ys.size∧∀ i (h1:i<vs.size) (h2:i<ys.size),VR M vs[i] ys[i]:=by
    generalize a.eval x=q at hv
    cases hv with
    | tup e hh=>exact⟨_,rfl,e,hh⟩
   obtain⟨ys,e,e1,e2⟩:=this
   obtain⟨hi,hr⟩:=List.getElem?_eq_some_iff.1 hb
   have hi1:i<vs.size:=by simpa using hi
   have hi2:i<ys.size:=by omega
   have q:=e2 i hi1 hi2
   have hr':vs[i]=v:=by simpa using hr
   rw[hr'] at q
   refine⟨ys[i],w,M,.inl ?_,q,Post.still p rfl rfl rfl rfl⟩
   simp[execOp,e,Instr.extract,hi2]
 ·-- call
  rename_i c
  obtain⟨callee,args,argTypes⟩:=c
  simp only at h
  split at h
  ·split at h
   case h_2=>cases h
   rename_i t x h1 h2
   cases hb:alen P t x with
   | none=>rw[hb] at h;cases h
   | some r=>
    rw[hb] at h;cases h
    have q:=evs_rel ha h2
    have hargs:(args.map a.eval).toList=args.toList.map a.eval:=by simp
    obtain⟨y,hy⟩:∃ y,args.toList.map a.eval=[y]:=by
     have:=q.1
     simp only[List.length_cons,List.length_nil] at this
     exact List.length_eq_one_iff.1 this.symm
    rw[hy] at q hargs
    have hq:=q.2 0 x y rfl rfl
    have e1:=list_one (l:=[]) h1
    have e2:=list_one (l:=[]) hargs
    subst e1
    have hrun:=run_alen (P:=P) (ty:=type) hq hb w
    refine⟨v,w,M,.inl ?_,?_,Post.still p rfl rfl rfl rfl⟩
    ·simp[execOp,resolve,invoke,builtin,e2,hrun]
    ·unfold alen at hb
     split at hb
     ·split at hb
      ·cases hb;exact .int _ _
      ·cases hb
     ·split at hb
      ·cases hb;exact .int _ _
      ·cases hb
     ·split at hb
      ·cases hb;exact .int _ _
      ·cases hb
     ·cases hb
  ·split at h
   case h_2=>cases h
   rename_i t t' x y h1 h2
   cases hb:aapp2 P H t t' x y with
   | none=>rw[hb] at h;cases h
   | some r=>
    obtain⟨u,H1,W,rs⟩:=r
    rw[hb] at h;cases h
    have q:=evs_rel ha h2
    have hargs:(args.map a.eval).toList=args.toList.map a.eval:=by simp
    obtain⟨x',y',hy⟩:∃ x' y',args.toList.map a.eval=[x',y']:=by
     have:=q.1
     simp only[List.length_cons,List.length_nil] at this
     match hm:args.toList.map a.eval,this with
     | [],h=>simp at h
     | [_],h=>simp at h
     | [x',y'],_=>exact⟨x',y',rfl⟩
     | _::_::_::_,h=>simp at h
    rw[hy] at q hargs
    have hq1:=q.2 0 x x' rfl rfl
    have hq2:=q.2 1 y y' rfl rfl
    have e1:=list_two h1
    have e2:=list_two hargs
    subst e1
    have:=Does.of_gives (gives_aapp2 (P:=P) (ty:=type) p hq1 hq2 hb (fun b hb=>hb))
    simpa [execOp,resolve,invoke,builtin,e2] using this
  ·split at h
   case h_2=>cases h
   rename_i x r h2
   cases hb:amin false x r with
   | none=>rw[hb] at h;cases h
   | some u=>
    rw[hb] at h;cases h
    have q:=evs_rel ha h2
    have hargs:(args.map a.eval).toList=args.toList.map a.eval:=by simp
    cases hy:args.toList.map a.eval with
    | nil=>rw[hy] at q;have:=q.1;simp at this
    | cons x' r'=>
     rw[hy] at q hargs
     have hq:=q.2 0 x x' rfl rfl
     have hrun:=amin_ok (P:=P) hq (r':=r') ⟨by have:=q.1;simpa using this,fun i v v' a b=>q.2 (i+1) v v' (by simpa using a) (by simpa using b)⟩ hb w
     refine⟨v,w,M,.inl ?_,hrun.2,Post.still p rfl rfl rfl rfl⟩
     simp only[execOp,resolve,invoke,builtin,Builtin.min_,Sem.run_bind,Sem.run_pure,Result.andThen_ok]
     rw[hargs]
     simp only[hrun.1,Result.andThen_ok]
  ·split at h
   case h_2=>cases h
   rename_i x r h2
   cases hb:amin true x r with
   | none=>rw[hb] at h;cases h
   | some u=>
    rw[hb] at h;cases h
    have q:=evs_rel ha h2
    have hargs:(args.map a.eval).toList=args.toList.map a.eval:=by simp
    cases hy:args.toList.map a.eval with
    | nil=>rw[hy] at q;have:=q.1;simp at this
    | cons x' r'=>
     rw[hy] at q hargs
     have hq:=q.2 0 x x' rfl rfl
     have hrun:=amax_ok (P:=P) hq (r':=r') ⟨by have:=q.1;simpa using this,fun i v v' a b=>q.2 (i+1) v v' (by simpa using a) (by simpa using b)⟩ hb w
     refine⟨v,w,M,.inl ?_,hrun.2,Post.still p rfl rfl rfl rfl⟩
     simp only[execOp,resolve,invoke,builtin,Builtin.max_,Sem.run_bind,Sem.run_pure,Result.andThen_ok]
     rw[hargs]
     simp only[hrun.1,Result.andThen_ok]
  ·split at h
   case h_2=>cases h
   rename_i t x h1 h2
   cases hb:acap P t x with
   | none=>rw[hb] at h;cases h
   | some r=>
    rw[hb] at h;cases h
    have q:=evs_rel ha h2
    have hargs:(args.map a.eval).toList=args.toList.map a.eval:=by simp
    obtain⟨y,hy⟩:∃ y,args.toList.map a.eval=[y]:=by
     have:=q.1
     simp only[List.length_cons,List.length_nil] at this
     exact List.length_eq_one_iff.1 this.symm
    rw[hy] at q hargs
    have hq:=q.2 0 x y rfl rfl
    have e1:=list_one (l:=[]) h1
    have e2:=list_one (l:=[]) hargs
    subst e1
    have hrun:=run_acap (P:=P) (ty:=type) hq hb w
    obtain⟨rfl,hrun⟩:=hrun
    refine⟨_,w,M,.inl ?_,.int _ _,Post.still p rfl rfl rfl rfl⟩
    simp[execOp,resolve,invoke,builtin,e2,hrun]
  ·cases h
 ·cases h

end Go.Proofs.YthhbglkokpablaaGreat.E
/- The machine's code: what it does with operations one behind the other. -/
set_option linter.unusedVariables false
set_option linter.unusedSimpArgs false
namespace Go.Proofs.YthhbglkokpablaaGreat.E
open Go Go.RowKit

/-- What a step may do to the blocks that were there. -/
def Ext (W:List Nat) (H H':AH):Prop:=H.length≤H'.length∧∀ b,b<H.length→b∉W→H'[b]?=H[b]?
theorem Ext.refl (W:List Nat) (H:AH):Ext W H H:=⟨Nat.le_refl _,fun _ _ _=>rfl⟩
theorem Ext.new {W:List Nat} (H:AH) (k:Blk):Ext W H (H++[k]):=⟨by simp,fun b hb _=>List.getElem?_append_left hb⟩
theorem Ext.set {W:List Nat} (H:AH) (b:Nat) (k:Blk):Ext (b::W) H (H.set b k):=⟨by simp,fun b' hb hn=>List.getElem?_set_ne (fun e=>hn (by simp[e]))⟩

/-! ### calls -/
/-- A call of function f, as the machine has it, is what the world's call does, wherever its blocks lie. -/
def SemCall (P:Program) (f:FuncId) (args:List Value) (H:AH) (v:Value) (H':AH) (W:List Nat):Prop:=
 ((∀ (as:Array Value) (w:World),(callFunc f as).run P w=.ok (.enter f as) w)∧Ext W H H') ∧
 ∀ (N0:Nat) (M:Mp) (w:World) (args':Array Value),Pre N0 H none M w→VRs M args args'.toList →
  Calls P f args' w fun e w'=>∃ v' M',e=.returned v'∧VR M' v v'∧Post N0 H H' W M M' w w'

def Cal (P:Program) (f:FuncId) (args:List Value) (H:AH) (Q:Value→AH→List Nat→Prop):Prop:=
 ∃ v H' W,SemCall P f args H v H' W∧Q v H' W

theorem SemCall.call {P:Program} {f:FuncId} {args:List Value} {H H':AH} {v:Value} {W:List Nat} (h:SemCall P f args H v H' W) {Q:Value→AH→List Nat→Prop} (q:Q v H' W):Cal P f args H Q:=⟨v,H',W,h,q⟩
theorem Cal.mono {P:Program} {f:FuncId} {args:List Value} {H:AH} {Q Q':Value→AH→List Nat→Prop} (h:Cal P f args H Q) (q:∀ v H' W,Q v H' W→Q' v H' W):Cal P f args H Q':=by
 obtain⟨v,H',W,h1,h2⟩:=h
 exact⟨v,H',W,h1,q _ _ _ h2⟩

/-! ### one operation -/
def put (T:Env) (dst:Option Tmp) (v:Value):Env:=
 match dst with
 | some d=>upd T d v
 | none=>T

def dok (sz:Nat) (dst:Option Tmp):Bool:=
 match dst with
 | some d=>decide (d<sz)
 | none=>true

theorem put_act {M:Mp} {sz:Nat} {T:Env} {a:Act} (h:ActR M sz T a) {dst:Option Tmp} (hd:dok sz dst=true) {v v':Value} (hv:VR M v v'):ActR M sz (put T dst v) (a.put dst v'):=by
 cases dst with
 | none=>exact h
 | some d=>
  simp only[dok,decide_eq_true_eq] at hd
  refine⟨by simpa [Act.put] using h.1,h.2.1,fun t=>?_⟩
  simp only[put,Act.put,Array.getD_eq_getD_getElem?]
  by_cases ht:t=d
  ·subst ht
   rw[upd_same,Array.getElem?_setIfInBounds_self_of_lt (by rw[h.1];exact hd)]
   exact hv
  ·rw[upd_ne _ _ _ _ ht,Array.getElem?_setIfInBounds_ne (Ne.symm ht)]
   have:=h.2.2 t
   rwa [Array.getD_eq_getD_getElem?] at this

theorem ActR.mono {M M':Mp} (h:MLe M M') {sz:Nat} {T:Env} {a:Act} (r:ActR M sz T a):ActR M' sz T a:=⟨r.1,r.2.1,fun t=>(r.2.2 t).mono h⟩

/-- The slots that an operation's operands name. -/
def opTmps (op:Op):List Tmp:=op.operands.toList.filterMap fun
 | .tmp t=>some t
 | _=>none

/-- An operation, as the machine has it, is what the world does. -/
def OpSem (P:Program) (sz:Nat) (o:Oper) (T:Env) (H:AH) (v:Value) (H':AH) (F:Foot):Prop:=
 ∀ (N0:Nat) (M:Mp) (a:Act) (w:World),a.tmps.size=sz→a.defers=[]→(∀ t∈opTmps o.op,VR M (T t) (a.tmps.getD t undef))→Pre N0 H F.r M w →
  ∀ (next:Act→World→Prop) (Q:Exit→Act→World→Prop),(∀ v' M' w',VR M' v v'→Post N0 H H' F.w M M' w w'→next (a.put o.dst v') w')→o.wp P a w next Q

theorem evs_congr {T T':Env}:∀ {xs:List Operand},(∀ x∈xs,ev T x=ev T' x)→evs T xs=evs T' xs
 | [],_=>rfl
 | x::xs,h=>by simp only[evs];rw[h x (by simp),evs_congr (fun y hy=>h y (by simp[hy]))]
theorem evp_congr {T T':Env}:∀ {xs:List (Nat × Operand)},(∀ x∈xs,ev T x.2=ev T' x.2)→evp T xs=evp T' xs
 | [],_=>rfl
 | (i,x)::xs,h=>by simp only[evp];rw[h (i,x) (by simp),evp_congr (fun y hy=>h y (by simp[hy]))]
theorem evo_congr {T T':Env}:∀ {x:Option Operand},(∀ y∈x.toList,ev T y=ev T' y)→evo T x=evo T' x
 | none,_=>rfl
 | some x,h=>by simp only[evo];rw[h x (by simp)]

theorem astep_congr {P:Program} {T T':Env} {H:AH} {op:Op} (h:∀ x∈op.operands,ev T x=ev T' x):astep P T H op=astep P T' H op:=by
 cases op <;> simp only[astep]
 case move x=>rw[h x (by simp[Op.operands])]
 case assign x=>rw[h x (by simp[Op.operands])]
 case pick c a b=>rw[h c (by simp[Op.operands]),h a (by simp[Op.operands]),h b (by simp[Op.operands])]
 case box e x=>rw[h x (by simp[Op.operands])]
 case build t ps=>rw[evp_congr (T':=T') (fun x hx=>h x.2 (by simp only[Op.operands,List.mem_toArray,List.mem_map];exact⟨x,hx,rfl⟩))]
 case buildSlice t n ps=>rw[evp_congr (T':=T') (fun x hx=>h x.2 (by simp only[Op.operands,List.mem_toArray,List.mem_map];exact⟨x,hx,rfl⟩))]
 case load t x=>rw[h x (by simp[Op.operands])]
 case store t x y=>rw[h x (by simp[Op.operands]),h y (by simp[Op.operands])]
 case nilCheck x=>rw[h x (by simp[Op.operands])]
 case binOp op t x y u=>rw[h x (by simp[Op.operands]),h y (by simp[Op.operands])]
 case unOp op t x=>rw[h x (by simp[Op.operands])]
 case convert s d x=>rw[h x (by simp[Op.operands])]
 case makeFunc fn first captured=>
  rw[evs_congr (T':=T') (xs:=first.toList) (fun x hx=>h x (by simp only[Op.operands,Array.mem_append];exact .inl (by simpa using hx))),
   evs_congr (T':=T') (xs:=captured.toList) (fun x hx=>h x (by simp only[Op.operands,Array.mem_append];exact .inr (by simpa using hx)))]
 case makeSlice t l c=>rw[h l (by simp[Op.operands]),h c (by simp[Op.operands])]
 case slice t x lo hi mx=>
  rw[h x (by simp[Op.operands]),evo_congr (T':=T') (x:=lo) (fun y hy=>h y (by simp[Op.operands];simp at hy;simp[hy])),evo_congr (T':=T') (x:=hi) (fun y hy=>h y (by simp[Op.operands];simp at hy;simp[hy])),
   evo_congr (T':=T') (x:=mx) (fun y hy=>h y (by simp[Op.operands];simp at hy;simp[hy]))]
 case fieldAddr t x f=>rw[h x (by simp[Op.operands])]
 case field t x f=>rw[h x (by simp[Op.operands])]
 case indexAddr t x i=>rw[h x (by simp[Op.operands]),h i (by simp[Op.operands])]
 case index t x i=>rw[h x (by simp[Op.operands]),h i (by simp[Op.operands])]
 case extract x i=>rw[h x (by simp[Op.operands])]
 case call c=>
  rw[evs_congr (T':=T') (xs:=c.args.toList) (fun x hx=>h x (by simp only[Op.operands,Call.operands,Array.mem_append];exact .inr (by simpa using hx)))]

theorem opsem_step {P:Program} {sz:Nat} {o:Oper} {T:Env} {H H':AH} {v:Value} {F:Foot} (h:astep P T H o.op=some (v,H',F)):OpSem P sz o T H v H' F:=by
 intro N0 M a w hsz hdf hT p next Q hk
 let T':Env:=fun t=>if t∈opTmps o.op then T t else undef
 let a':Act:={ a with tmps:=Array.ofFn (n:=sz) fun t=>if t.val∈opTmps o.op then a.tmps.getD t.val undef else undef }
 have hev:∀ x∈o.op.operands,ev T x=ev T' x:=fun x hx=>by
  cases x with
  | tmp t=>
   have:t∈opTmps o.op:=List.mem_filterMap.2 ⟨.tmp t,by simpa using hx,rfl⟩
   simp[ev,T',this]
  | _=>rfl
 have hae:∀ x∈o.op.operands,a.eval x=a'.eval x:=fun x hx=>by
  cases x with
  | tmp t=>
   have hm:t∈opTmps o.op:=List.mem_filterMap.2 ⟨.tmp t,by simpa using hx,rfl⟩
   simp only[Act.eval,a',Array.getD_eq_getD_getElem?]
   by_cases ht:t<sz
   ·simp[ht,hm]
   ·have ht':sz≤(t:Nat):=Nat.le_of_not_lt ht
    rw[Array.getElem?_eq_none (xs:=a.tmps) (by rw[hsz];exact ht'),Array.getElem?_eq_none (by simp;exact ht')]
  | _=>rfl
 have hact:ActR M sz T' a':=by
  refine⟨by simp[a'],hdf,fun t=>?_⟩
  simp only[a',T',Array.getD_eq_getD_getElem?]
  by_cases ht:t<sz
  ·by_cases hm:t∈opTmps o.op
   ·have:=hT t hm
    rw[Array.getD_eq_getD_getElem?] at this
    simpa [ht,hm] using this
   ·simp[ht,hm];exact .undef
  ·rw[Array.getElem?_eq_none (by simp;omega)]
   by_cases hm:t∈opTmps o.op
   ·have:=hT t hm
    rw[Array.getD_eq_getD_getElem?,Array.getElem?_eq_none (by omega)] at this
    simpa [hm] using this
   ·simp[hm];exact .undef
 rw[astep_congr hev] at h
 have hns:∀ cs b,o.op≠.select cs b:=fun cs b e=>by rw[e] at h;cases h
 obtain⟨v',w',M',h1,h2,h3⟩:=astep_ok hact h p
 unfold Oper.wp
 rw[execOp_congr o hns hae]
 rcases h1 with h1|⟨h1,rfl⟩
 ·rw[h1,Oper.upon_value];exact hk v' M' w' h2 h3
 ·rw[h1,Oper.upon_skip];exact hk undef M' w' h2 h3

theorem opsem_call {P:Program} {sz:Nat} {o:Oper} {T:Env} {H H':AH} {v:Value} {W:List Nat} {f:Operand} {args:Array Operand} {ts:Array TypeId} {fid:FuncId} {xs zs:Array Value} {vs:List Value}
  (ho:o.op=.call ⟨.value f,args,ts⟩) (hf:ev T f=some (.func (.func fid) xs zs)) (hargs:evs T args.toList=some vs) (hs:SemCall P fid (xs.toList++vs++zs.toList) H v H' W):OpSem P sz o T H v H' ⟨W,none⟩:=by
 intro N0 M a w hsz hdf hT p next Q hk
 have evr:∀ x∈o.op.operands,∀ u,ev T x=some u→VR M u (a.eval x):=fun x hx u hu=>by
  cases x with
  | tmp t=>
   have hm:t∈opTmps o.op:=List.mem_filterMap.2 ⟨.tmp t,by simpa using hx,rfl⟩
   simp only[ev,Option.some.injEq] at hu;subst hu
   exact hT t hm
  | const c=>
   simp only[ev] at hu
   split at hu
   ·cases hu;exact plain_rel ‹_›
   ·cases hu
  | global g=>cases hu
  | func f=>
   simp only[ev,Option.some.injEq] at hu;subst hu
   exact .fn rfl (fun i h=>by simp at h) rfl (fun i h=>by simp at h)
 have hin:∀ x,(x=f∨x∈args)→x∈o.op.operands:=fun x hx=>by
  rw[ho]
  simp only[Op.operands,Call.operands,Array.mem_append]
  rcases hx with rfl|hx
  ·exact .inl (by simp)
  ·exact .inr hx
 have hfv:=evr f (hin f (.inl rfl)) _ hf
 obtain⟨xs',zs',hfe,hx1,hx2,hz1,hz2⟩:∃ xs' zs',a.eval f=.func (.func fid) xs' zs'∧xs.size=xs'.size∧(∀ i (h1:i<xs.size) (h2:i<xs'.size),VR M xs[i] xs'[i])∧zs.size=zs'.size∧(∀ i (h1:i<zs.size) (h2:i<zs'.size),VR M zs[i] zs'[i]):=by
  generalize a.eval f=q at hfv
  cases hfv with
  | fn h1 h2 h3 h4=>exact⟨_,_,rfl,h1,h2,h3,h4⟩
 have hargs':VRs M vs (args.toList.map a.eval):=by
  have:∀ (l:List Operand),(∀ x∈l,x∈args)→∀ us,evs T l=some us→VRs M us (l.map a.eval):=by
   intro l
   induction l with
   | nil=>intro _ us e;cases e;exact VRs.nil
   | cons x l ih=>
    intro hl us e
    simp only[evs] at e
    split at e
    case h_2=>cases e
    rename_i u us' e1 e2
    cases e
    exact VRs.cons (evr x (hin x (.inr (hl x (by simp)))) _ e1) (ih (fun y hy=>hl y (by simp[hy])) _ e2)
  exact this args.toList (fun x hx=>by simpa using hx) vs hargs
 have arr:∀ {l l':Array Value},l.size=l'.size→(∀ i (h1:i<l.size) (h2:i<l'.size),VR M l[i] l'[i])→VRs M l.toList l'.toList:=fun {l l'} e hh=>by
  refine⟨by simpa using e,fun i u u' h1 h2=>?_⟩
  obtain⟨i1,e1⟩:=List.getElem?_eq_some_iff.1 h1
  obtain⟨i2,e2⟩:=List.getElem?_eq_some_iff.1 h2
  have q:=hh i (by simpa using i1) (by simpa using i2)
  simp only[Array.getElem_toList] at e1 e2
  rw[← e1,← e2];exact q
 have hall:VRs M (xs.toList++vs++zs.toList) (xs'++args.map a.eval++zs').toList:=by
  simp only[Array.toList_append,Array.toList_map]
  exact((arr hx1 hx2).append hargs').append (arr hz1 hz2)
 have hexec:(execOp a.eval o).run P w=.ok (.enter fid (xs'++args.map a.eval++zs')) w:=by
  obtain⟨dst,op,type,pos,after,guard⟩:=o
  simp only at ho
  subst ho
  simp only[execOp,resolve,hfe,Deferred.ofValue,Sem.run_bind,Sem.run_pure,Result.andThen_ok,invoke]
  exact hs.1.1 _ _
 unfold Oper.wp
 rw[hexec,Oper.upon_enter]
 refine(hs.2 N0 M w _ p hall).mono (fun e w' ⟨v',M',he,h1,h2⟩=>?_)
 subst he
 exact hk v' M' w' h1 h2

end Go.Proofs.YthhbglkokpablaaGreat.E
/- Operations one behind the other: the machine's way through a region, and that the world goes it where the order is the text's. -/
set_option linter.unusedVariables false
set_option linter.unusedSimpArgs false
namespace Go.Proofs.YthhbglkokpablaaGreat.E
open Go Go.RowKit

/-- Is an operation to be done? -/
def awant (ops:Array Oper) (T:Env) (o:Oper):Option Bool:=
 match o.guard with
 | none=>some true
 | some (j,want)=>match (ops[j]?).bind (·.dst) with
  | some t=>match T t with
   | .bool b=>some (b==want)
   | .tuple _=>some false
   | _=>none
  | none=>none

def WRun (P:Program) (sz:Nat) (o:Oper) (T:Env) (H:AH) (K:Value→AH→Foot→Prop):Prop:=
 match o.op with
 | .call ⟨.value f,args,_⟩=>match ev T f,evs T args.toList with
  | some (.func (.func fid) xs zs),some vs=>Cal P fid (xs.toList++vs++zs.toList) H fun v H' W=>K v H' ⟨W,none⟩
  | _,_=>False
 | op=>match astep P T H op with
  | some (v,H',F)=>K v H' F
  | none=>False

def WOps (P:Program) (sz n0:Nat) (ops:Array Oper):List Oper→Env→AH→List Nat→List Foot→(Env→AH→List Nat→List Foot→Prop)→Prop
 | [],T,H,D,Fs,K=>K T H D Fs
 | o::rest,T,H,D,Fs,K=>dok sz o.dst=true ∧
  match awant ops T o with
  | some g=>(g=true→WRun P sz o T H fun v H' F=>WOps P sz n0 ops rest (put T o.dst v) H' (D++F.w.filter (fun b=>decide (b<n0))) (Fs++[F]) K) ∧
    (g=false→WOps P sz n0 ops rest (put T o.dst undef) H D (Fs++[⟨[],some []⟩]) K)
  | none=>False

theorem astep_ext {P:Program} {T:Env} {H H':AH} {op:Op} {v:Value} {F:Foot} (h:astep P T H op=some (v,H',F)):Ext F.w H H':=by
 unfold astep at h
 split at h
 case h_4 e=>cases hz:tzero P e <;> rw[hz] at h <;> cases h;exact Ext.new _ _
 case h_5 x=>
  split at h
  case h_2=>cases h
  rename_i u _
  cases hz:cellsL u <;> rw[hz] at h <;> cases h;exact Ext.new _ _
 case h_7 t n ps=>
  split at h
  case h_2=>cases h
  rename_i vs _
  cases hz:abuildSlice P t n vs <;> rw[hz] at h <;> cases h;exact Ext.new _ _
 case h_8 t x=>
  split at h
  case h_2=>cases h
  rename_i u _
  cases hz:aload P H t u <;> rw[hz] at h <;> cases h;exact Ext.refl _ _
 case h_9 t x y=>
  split at h
  case h_2=>cases h
  rename_i u1 u2 _ _
  cases hz:astore P H t u1 u2 with
  | none=>rw[hz] at h;cases h
  | some r=>
   obtain⟨H1,b⟩:=r
   rw[hz] at h;cases h
   unfold astore at hz
   split at hz
   case h_2=>cases hz
   split at hz
   case h_2=>cases hz
   split at hz
   case isFalse=>cases hz
   cases hz
   exact Ext.set _ _ _
 case h_13 s d x=>
  split at h
  case h_2=>cases h
  rename_i u _
  split at h
  ·cases h;exact Ext.refl _ _
  ·split at h
   ·cases h;exact Ext.new _ _
   ·split at h
    ·cases h;exact Ext.refl _ _
    ·cases hz:amark P H s d u <;> rw[hz] at h <;> cases h;exact Ext.refl _ _
 case h_15 t l c=>
  split at h
  case h_2=>cases h
  rename_i u1 u2 _ _
  cases hz:amake P t u1 u2 <;> rw[hz] at h <;> cases h;exact Ext.new _ _
 case h_22 c=>
  split at h
  case h_2=>
   split at h
   case h_2=>cases h
   rename_i t t' x y _ _
   cases hz:aapp2 P H t t' x y with
   | none=>rw[hz] at h;cases h
   | some r=>
    obtain⟨u,H1,W,rs⟩:=r
    rw[hz] at h;cases h
    unfold aapp2 at hz
    cases hq:azapp P H t t' x y with
    | some q=>
     rw[hq] at hz;cases hz
     unfold azapp at hq
     split at hq
     case h_2=>cases hq
     split at hq
     case h_2=>cases hq
     split at hq
     case h_2=>cases hq
     split at hq
     case h_2=>cases hq
     split at hq <;> cases hq;exact Ext.new _ _
    | none=>
    rw[hq] at hz
    simp only at hz
    cases hq2:azappB P H t t' x y with
    | some q=>
     rw[hq2] at hz;cases hz
     unfold azappB at hq2
     split at hq2
     case h_2=>cases hq2
     split at hq2
     case h_2=>cases hq2
     split at hq2
     case h_2=>cases hq2
     split at hq2
     case h_2=>cases hq2
     split at hq2
     case h_2=>cases hq2
     split at hq2 <;> cases hq2;exact Ext.set _ _ _
    | none=>
    rw[hq2] at hz
    simp only at hz
    unfold aappend at hz
    split at hz
    case h_2=>cases hz
    split at hz
    case h_2=>cases hz
    split at hz
    case h_2=>cases hz
    split at hz
    case isFalse=>cases hz
    split at hz
    ·split at hz
     ·cases hz;exact Ext.refl _ _
     ·split at hz <;> cases hz;exact Ext.new _ _
    ·split at hz
     ·cases hz;exact Ext.refl _ _
     ·split at hz <;> cases hz;exact Ext.new _ _
    ·split at hz
     case h_2=>cases hz
     split at hz
     case isFalse=>
      split at hz
      case isFalse=>cases hz
      split at hz
      ·cases hz;exact Ext.refl _ _
      ·split at hz <;> cases hz;exact Ext.set _ _ _
     split at hz
     ·cases hz;exact Ext.refl _ _
     ·split at hz <;> cases hz;exact Ext.set _ _ _
    ·cases hz
  all_goals (first|(cases h;done)|(cases h;exact Ext.refl _ _)|(obtain⟨_,_,e⟩:=Option.map_eq_some_iff.1 h;cases e;exact Ext.refl _ _)|(split at h <;> (first|(cases h;done)|(cases h;exact Ext.refl _ _)|(obtain⟨_,_,e⟩:=Option.map_eq_some_iff.1 h;cases e;exact Ext.refl _ _)|(split at h <;> (first|(cases h;done)|(cases h;exact Ext.refl _ _)|(obtain⟨_,_,e⟩:=Option.map_eq_some_iff.1 h;cases e;exact Ext.refl _ _)|(split at h <;> (first|(cases h;done)|(cases h;exact Ext.refl _ _)|(obtain⟨_,_,e⟩:=Option.map_eq_some_iff.1 h;cases e;exact Ext.refl _ _))))))))
 all_goals (first|(cases h;done)|(cases h;exact Ext.refl _ _)|(obtain⟨_,_,e⟩:=Option.map_eq_some_iff.1 h;cases e;exact Ext.refl _ _)|(split at h <;> (first|(cases h;done)|(cases h;exact Ext.refl _ _)|(obtain⟨_,_,e⟩:=Option.map_eq_some_iff.1 h;cases e;exact Ext.refl _ _)|(split at h <;> (first|(cases h;done)|(cases h;exact Ext.refl _ _)|(obtain⟨_,_,e⟩:=Option.map_eq_some_iff.1 h;cases e;exact Ext.refl _ _)|(split at h <;> (first|(cases h;done)|(cases h;exact Ext.refl _ _)|(obtain⟨_,_,e⟩:=Option.map_eq_some_iff.1 h;cases e;exact Ext.refl _ _))))))))

/-- A step of the way: what it gives, what it leaves, what it writes and reads. -/
structure St where
 T:Env
 H:AH
 v:Value
 F:Foot

/-- A way through operations: each is done, or not to be done. The way's list has, for each, what stood ahead of it. -/
inductive Way (P:Program) (sz:Nat) (ops:Array Oper):List Oper→Env→AH→List St→Env→AH→Prop
 | nil (T:Env) (H:AH):Way P sz ops [] T H [] T H
 | run {o:Oper} {rest:List Oper} {T T':Env} {H H1 H':AH} {v:Value} {F:Foot} {l:List St} (hd:dok sz o.dst=true) (hw:awant ops T o=some true) (hs:OpSem P sz o T H v H1 F) (he:Ext F.w H H1)
   (h:Way P sz ops rest (put T o.dst v) H1 l T' H'):Way P sz ops (o::rest) T H (⟨T,H,v,F⟩::l) T' H'
 | skip {o:Oper} {rest:List Oper} {T T':Env} {H H':AH} {l:List St} (hd:dok sz o.dst=true) (hw:awant ops T o=some false)
   (h:Way P sz ops rest (put T o.dst undef) H l T' H'):Way P sz ops (o::rest) T H (⟨T,H,undef,⟨[],some []⟩⟩::l) T' H'

def dirty (n0:Nat) (l:List St):List Nat:=l.flatMap fun s=>s.F.w.filter (fun b=>decide (b<n0))

theorem WRun.sem {P:Program} {sz:Nat} {o:Oper} {T:Env} {H:AH} {K:Value→AH→Foot→Prop} (h:WRun P sz o T H K):∃ v H' F,OpSem P sz o T H v H' F∧Ext F.w H H'∧K v H' F:=by
 unfold WRun at h
 split at h
 ·rename_i f args ts ho
  split at h
  case h_2=>exact h.elim
  rename_i fid xs zs vs hf hargs
  obtain⟨v,H',W,h1,h2⟩:=h
  exact⟨v,H',⟨W,none⟩,opsem_call ho hf hargs h1,h1.1.2,h2⟩
 ·split at h
  case h_2=>exact h.elim
  rename_i v H' F hs
  exact⟨v,H',F,opsem_step hs,astep_ext hs,h⟩

theorem WOps.way {P:Program} {sz n0:Nat} {ops:Array Oper}:∀ {l:List Oper} {T:Env} {H:AH} {D:List Nat} {Fs:List Foot} {K:Env→AH→List Nat→List Foot→Prop},WOps P sz n0 ops l T H D Fs K →
  ∃ T' H' sts,Way P sz ops l T H sts T' H'∧K T' H' (D++dirty n0 sts) (Fs++sts.map (·.F))
 | [],T,H,D,Fs,K,h=>⟨T,H,[],.nil T H,by simpa [dirty,WOps] using h⟩
 | o::rest,T,H,D,Fs,K,h=>by
  obtain⟨hd,h⟩:=h
  split at h
  case h_2=>exact h.elim
  rename_i g hg
  cases g with
  | true=>
   obtain⟨v,H1,F,h1,he,h2⟩:=(h.1 rfl).sem
   obtain⟨T',H',sts,h3,h4⟩:=WOps.way h2
   exact⟨T',H',_,.run hd hg h1 he h3,by simpa [dirty,List.append_assoc] using h4⟩
  | false=>
   obtain⟨T',H',sts,h3,h4⟩:=WOps.way (h.2 rfl)
   exact⟨T',H',_,.skip hd hg h3,by simpa [dirty,List.append_assoc] using h4⟩

/-- How the world stands to the machine, from where the function began. -/
structure Ctx where
 N0:Nat
 H0:AH
 M0:Mp
 w0:World

def StR (c:Ctx) (sz:Nat) (T:Env) (H:AH) (D:List Nat) (a:Act) (w:World):Prop:=
 ∃ M,Pre c.N0 H none M w∧Post c.N0 c.H0 H D c.M0 M c.w0 w∧ActR M sz T a

theorem wanted_rel {M:Mp} {sz:Nat} {T:Env} {a:Act} {ops:Array Oper} {o:Oper} {g:Bool} (hsz:a.tmps.size=sz) (h:∀ j w t,o.guard=some (j,w)→(ops[j]?).bind (·.dst)=some t→VR M (T t) (a.tmps.getD t undef)) (hw:awant ops T o=some g):Region.wanted o (yielded ops a.tmps)=g:=by
 unfold awant at hw
 unfold Region.wanted
 split at hw
 ·rename_i hg
  cases hw
  rw[hg]
 ·rename_i j want hg
  rw[hg]
  split at hw
  case h_2=>cases hw
  rename_i t ht
  have hr:=h j want t hg ht
  simp only[yielded,ht,Option.bind_some]
  split at hw
  ·rename_i b hb
   cases hw
   rw[hb] at hr
   have e:=hr.bool_inv
   rw[Array.getD_eq_getD_getElem?] at e
   cases hx:a.tmps[t]? with
   | none=>rw[hx] at e;simp[undef] at e
   | some u=>
    rw[hx] at e
    simp only[Option.getD_some] at e
    subst e
    simp only[]
    cases b <;> cases want <;> rfl
  ·rename_i xs hb
   cases hw
   rw[hb] at hr
   rw[Array.getD_eq_getD_getElem?] at hr
   cases hx:a.tmps[t]? with
   | none=>simp
   | some u=>
    rw[hx] at hr
    simp only[Option.getD_some] at hr
    cases hr
    simp
  ·cases hw

/-- Where the order is the text's. -/
theorem Way.seq {P:Program} {sz:Nat} {ops:Array Oper} {c:Ctx} (pc:Pre c.N0 c.H0 none c.M0 c.w0) {Q:Exit→Act→World→Prop}:∀ {l:List Oper} {T T':Env} {H H':AH} {sts:List St},Way P sz ops l T H sts T' H'→∀ {D:List Nat} {a:Act} {w:World},StR c sz T H D a w →
  (∀ a' w',StR c sz T' H' (D++dirty c.H0.length sts) a' w'→Q .normal a' w')→wpList P ops Q l a w:=by
 intro l T T' H H' sts h
 induction h with
 | nil T H=>
  intro D a w hs hq
  exact hq a w (by simpa [dirty] using hs)
 | @run o rest T T' H H1 H' v F l hd hw hsem hext hrest ih=>
  intro D a w hs hq
  obtain⟨M,p,q,ha⟩:=hs
  have hwant:=wanted_rel (ops:=ops) (o:=o) ha.1 (fun j w t _ _=>ha.2.2 t) hw
  simp only[wpList]
  rw[if_pos hwant]
  refine .inl (hsem c.N0 M a w ha.1 ha.2.1 (fun t _=>ha.2.2 t) ⟨p.dom,p.hp,p.low,fun _ h1 h2=>p.cont trivial h1 h2⟩ _ _ (fun v' M' w' hv hp=>?_))
  refine ih (D:=D++F.w.filter (fun b=>decide (b<c.H0.length))) ⟨M',Post.all p hp,q.trans hp pc.hp pc.dom p,put_act (ha.mono hp.ext) hd hv⟩ (fun a' w' hs'=>hq a' w' ?_)
  simpa [dirty,List.append_assoc] using hs'
 | @skip o rest T T' H H' l hd hw hrest ih=>
  intro D a w hs hq
  obtain⟨M,p,q,ha⟩:=hs
  have hwant:=wanted_rel (ops:=ops) (o:=o) ha.1 (fun j w t _ _=>ha.2.2 t) hw
  simp only[wpList]
  rw[if_neg (by rw[hwant];simp)]
  refine ih (D:=D) ⟨M,p,q,put_act ha hd .undef⟩ (fun a' w' hs'=>hq a' w' ?_)
  simpa [dirty] using hs'

end Go.Proofs.YthhbglkokpablaaGreat.E
/- Operations whose order is drawn: if no two that have no order among them touch what the other one writes, the world comes to what the text's order comes to. -/
set_option linter.unusedVariables false
set_option linter.unusedSimpArgs false
namespace Go.Proofs.YthhbglkokpablaaGreat.E
open Go Go.RowKit

/-- The places that an operation waits for. -/
def ons (o:Oper):List Nat:=(o.after.toList.filter (Region.binds .any)).map (·.on)

/-- All that stands ahead of each operation, in every order. -/
def ancL:List (List Nat)→List Oper→List (List Nat)
 | acc,[]=>acc
 | acc,o::rest=>ancL (acc++[ons o++(ons o).flatMap fun k=>acc.getD k []]) rest

def ancs (ops:Array Oper):List (List Nat):=ancL [] ops.toList

def ordered (ops:Array Oper) (i j:Nat):Bool:=((ancs ops).getD j []).contains i

/-- No slot of one is named by another one that has no order with it; none is written twice. -/
def apartB (ops:Array Oper) (i j:Nat) (x y:Oper):Bool:=
 (match x.dst with
  | some d=>y.dst != some d&&(ordered ops i j||!(y.looksAt ops).contains d)
  | none=>true) &&
 (match y.dst with
  | some d=>ordered ops i j||!(x.looksAt ops).contains d
  | none=>true)

def regB (ops:Array Oper):Bool:=
 (List.range ops.size).all fun j=>match ops[j]? with
  | none=>true
  | some y=>(ons y).all (fun k=>decide (k<j))&&(List.range j).all fun i=>match ops[i]? with
   | none=>true
   | some x=>apartB ops i j x y

def noFoot:Foot:=⟨[],some []⟩

def okPair (f g:Foot):Prop:=(∀ b∈f.w,¬ inR g.r b∧b∉g.w)∧(∀ b∈g.w,¬ inR f.r b∧b∉f.w)

/-- No two without an order touch what the other one writes. -/
def Compat (ops:Array Oper) (Fs:List Foot):Prop:=∀ i j,i<j→j<ops.size→ordered ops i j=false→okPair (Fs.getD i noFoot) (Fs.getD j noFoot)

theorem ancL_closed (all:List Oper) (L:Nat→Prop) (hL:∀ j o,all[j]?=some o→L j→∀ k∈ons o,L k) :
  ∀ (rest:List Oper) (acc:List (List Nat)),all.drop acc.length=rest→(∀ j o,j<acc.length→all[j]?=some o→(∀ k∈ons o,L k)→∀ k∈acc.getD j [],L k) →
  ∀ j o,all[j]?=some o→(∀ k∈ons o,L k)→∀ k∈(ancL acc rest).getD j [],L k
 | [],acc,hr,ha,j,o,ho,hk=>by
  have hlt:j<all.length:=(List.getElem?_eq_some_iff.1 ho).1
  have:all.length≤acc.length:=by
   have:=congrArg List.length hr
   simp at this;omega
  exact ha j o (by omega) ho hk
 | x::rest,acc,hr,ha,j,o,ho,hk=>by
  have hx:all[acc.length]?=some x:=by
   have:=congrArg (fun l=>l[0]?) hr
   simpa using this
  refine ancL_closed all L hL rest _ ?_ ?_ j o ho hk
  ·have:=congrArg (fun l=>l.drop 1) hr
   simpa [List.drop_drop] using this
  ·intro j o hj ho hk k hm
   simp at hj
   by_cases hlt:j<acc.length
   ·rw[List.getD_eq_getElem?_getD,List.getElem?_append_left hlt] at hm
    exact ha j o hlt ho hk k (by rw[List.getD_eq_getElem?_getD];exact hm)
   ·have hje:j=acc.length:=by omega
    subst hje
    rw[hx] at ho;cases ho
    rw[List.getD_eq_getElem?_getD,List.getElem?_append_right (Nat.le_refl _)] at hm
    simp at hm
    rcases hm with hm|⟨k',hk',hm⟩
    ·exact hk k hm
    ·have hlt':k'<acc.length:=by
      rcases Nat.lt_or_ge k' acc.length with h|h
      ·exact h
      ·rw[List.getElem?_eq_none h] at hm;simp at hm
     have hxlt:=(List.getElem?_eq_some_iff.1 hx).1
     have hk'':all[k']?=some all[k']:=List.getElem?_eq_getElem (by omega)
     refine ha k' _ hlt' hk'' (hL k' _ hk'' (hk k' hk')) k ?_
     rw[List.getD_eq_getElem?_getD];exact hm

/-- What stands ahead is done ahead. -/
theorem ordered_done {ops:Array Oper} {L:Nat→Prop} (hL:∀ j o,ops[j]?=some o→L j→∀ k∈ons o,L k) {i j:Nat} (ho:ordered ops i j=true) {o:Oper} (hj:ops[j]?=some o) (hk:∀ k∈ons o,L k):L i:=by
 have:=ancL_closed ops.toList L (fun j o h=>hL j o (by simpa using h)) ops.toList [] (by simp) (fun j o h=>by simp at h) j o (by simpa using hj) hk i
 refine this ?_
 unfold ordered ancs at ho
 simpa using ho

theorem regB_ons {ops:Array Oper} (h:regB ops=true) {j:Nat} {o:Oper} (hj:ops[j]?=some o):∀ k∈ons o,k<j:=by
 have hlt:j<ops.size:=(Array.getElem?_eq_some_iff.1 hj).1
 unfold regB at h
 rw[List.all_eq_true] at h
 have:=h j (by simpa using hlt)
 rw[hj] at this
 simp only[Bool.and_eq_true,List.all_eq_true,decide_eq_true_eq] at this
 exact this.1

theorem regB_apart {ops:Array Oper} (h:regB ops=true) {i j:Nat} {x y:Oper} (hij:i<j) (hi:ops[i]?=some x) (hj:ops[j]?=some y) :
  (∀ d,x.dst=some d→y.dst≠some d)∧(ordered ops i j=false→(∀ d,x.dst=some d→d∉y.looksAt ops)∧∀ d,y.dst=some d→d∉x.looksAt ops):=by
 have hlt:j<ops.size:=(Array.getElem?_eq_some_iff.1 hj).1
 unfold regB at h
 rw[List.all_eq_true] at h
 have:=h j (by simpa using hlt)
 rw[hj] at this
 simp only[Bool.and_eq_true,List.all_eq_true] at this
 have:=this.2 i (by simpa using hij)
 rw[hi] at this
 unfold apartB at this
 simp only[Bool.and_eq_true] at this
 obtain⟨h1,h2⟩:=this
 refine⟨fun d hd=>?_,fun hord=>⟨fun d hd=>?_,fun d hd=>?_⟩⟩
 ·rw[hd] at h1;simp at h1;exact h1.1
 ·rw[hd] at h1;simp[hord] at h1;exact h1.2
 ·rw[hd] at h2;simp[hord] at h2;exact h2

/-! ### the way, place by place -/
def stH (sts:List St) (H':AH) (i:Nat):AH:=match sts[i]? with
 | some s=>s.H
 | none=>H'

/-- A step of a way, by its place. -/
structure StepAt (P:Program) (sz:Nat) (ops:Array Oper) (sts:List St) (H':AH) (i:Nat) (o:Oper) (s:St):Prop where
 hd:dok sz o.dst=true
 H:stH sts H' i=s.H
 ext:Ext s.F.w (stH sts H' i) (stH sts H' (i+1))
 does:(awant ops s.T o=some true∧OpSem P sz o s.T s.H s.v (stH sts H' (i+1)) s.F) ∨
  (awant ops s.T o=some false∧s.v=undef∧s.F=noFoot∧stH sts H' (i+1)=s.H)

theorem Way.at {P:Program} {sz:Nat} {ops:Array Oper}:∀ {l:List Oper} {T T':Env} {H H':AH} {sts:List St},Way P sz ops l T H sts T' H' →
  sts.length=l.length∧stH sts H' 0=H∧(∀ (i:Nat) (o:Oper),l[i]?=some o→∃ s:St,sts[i]?=some s∧StepAt P sz ops sts H' i o s) ∧
  (∀ (i:Nat) (s:St),sts[i]?=some s→∀ t:Nat,(∃ (j:Nat) (o:Oper) (s':St),j<i∧l[j]?=some o∧sts[j]?=some s'∧o.dst=some t∧s.T t=s'.v)∨((∀ (j:Nat) (o:Oper),j<i→l[j]?=some o→o.dst≠some t)∧s.T t=T t)) ∧
  (∀ t:Nat,(∃ (j:Nat) (o:Oper) (s':St),l[j]?=some o∧sts[j]?=some s'∧o.dst=some t∧T' t=s'.v)∨((∀ (j:Nat) (o:Oper),l[j]?=some o→o.dst≠some t)∧T' t=T t)):=by
 intro l T T' H H' sts h
 induction h with
 | nil T H=>exact⟨rfl,rfl,fun i o h=>by simp at h,fun i s h=>by simp at h,fun t=>.inr ⟨fun j o h=>by simp at h,rfl⟩⟩
 | @run o rest T T' H H1 H' v F l hd hw hs he h ih=>
  obtain⟨a1,a2,a3,a4,a5⟩:=ih
  have sh:∀ i,stH (⟨T,H,v,F⟩::l) H' (i+1)=stH l H' i:=fun i=>by simp[stH]
  refine⟨by simp[a1],rfl,fun i o' ho=>?_,fun i s hsi t=>?_,fun t=>?_⟩
  ·cases i with
   | zero=>
    simp at ho;subst ho
    exact⟨_,rfl,hd,rfl,by rw[sh,a2];exact he,.inl ⟨hw,by rw[sh,a2];exact hs⟩⟩
   | succ i=>
    obtain⟨s,g1,g2⟩:=a3 i o' (by simpa using ho)
    exact⟨s,by simpa using g1,g2.hd,by rw[sh];exact g2.H,by rw[sh,sh];exact g2.ext,by rw[sh];exact g2.does⟩
  ·cases i with
   | zero=>simp at hsi;subst hsi;exact .inr ⟨fun j o h=>by omega,rfl⟩
   | succ i=>
    rcases a4 i s (by simpa using hsi) t with ⟨j,o',s',g1,g2,g3,g4,g5⟩|⟨g1,g2⟩
    ·exact .inl ⟨j+1,o',s',by omega,by simpa using g2,by simpa using g3,g4,g5⟩
    ·by_cases hdt:o.dst=some t
     ·exact .inl ⟨0,o,_,by omega,rfl,rfl,hdt,by rw[g2,hdt];simp[put,upd]⟩
     ·refine .inr ⟨fun j o' hj ho=>?_,by
       rw[g2]
       cases hd':o.dst with
       | none=>rfl
       | some d=>rw[hd'] at hdt;simp[put,upd];intro e;exact absurd (by rw[e]) hdt⟩
      cases j with
      | zero=>simp at ho;subst ho;exact hdt
      | succ j=>exact g1 j o' (by omega) (by simpa using ho)
  ·rcases a5 t with ⟨j,o',s',g2,g3,g4,g5⟩|⟨g1,g2⟩
   ·exact .inl ⟨j+1,o',s',by simpa using g2,by simpa using g3,g4,g5⟩
   ·by_cases hdt:o.dst=some t
    ·exact .inl ⟨0,o,_,rfl,rfl,hdt,by rw[g2,hdt];simp[put,upd]⟩
    ·refine .inr ⟨fun j o' ho=>?_,by
      rw[g2]
      cases hd':o.dst with
      | none=>rfl
      | some d=>rw[hd'] at hdt;simp[put,upd];intro e;exact absurd (by rw[e]) hdt⟩
     cases j with
     | zero=>simp at ho;subst ho;exact hdt
     | succ j=>exact g1 j o' (by simpa using ho)
 | @skip o rest T T' H H' l hd hw h ih=>
  obtain⟨a1,a2,a3,a4,a5⟩:=ih
  have sh:∀ i,stH (⟨T,H,undef,⟨[],some []⟩⟩::l) H' (i+1)=stH l H' i:=fun i=>by simp[stH]
  refine⟨by simp[a1],rfl,fun i o' ho=>?_,fun i s hsi t=>?_,fun t=>?_⟩
  ·cases i with
   | zero=>
    simp at ho;subst ho
    exact⟨_,rfl,hd,rfl,by rw[sh,a2];exact Ext.refl _ _,.inr ⟨hw,rfl,rfl,by rw[sh,a2]⟩⟩
   | succ i=>
    obtain⟨s,g1,g2⟩:=a3 i o' (by simpa using ho)
    exact⟨s,by simpa using g1,g2.hd,by rw[sh];exact g2.H,by rw[sh,sh];exact g2.ext,by rw[sh];exact g2.does⟩
  ·cases i with
   | zero=>simp at hsi;subst hsi;exact .inr ⟨fun j o h=>by omega,rfl⟩
   | succ i=>
    rcases a4 i s (by simpa using hsi) t with ⟨j,o',s',g1,g2,g3,g4,g5⟩|⟨g1,g2⟩
    ·exact .inl ⟨j+1,o',s',by omega,by simpa using g2,by simpa using g3,g4,g5⟩
    ·by_cases hdt:o.dst=some t
     ·exact .inl ⟨0,o,_,by omega,rfl,rfl,hdt,by rw[g2,hdt];simp[put,upd]⟩
     ·refine .inr ⟨fun j o' hj ho=>?_,by
       rw[g2]
       cases hd':o.dst with
       | none=>rfl
       | some d=>rw[hd'] at hdt;simp[put,upd];intro e;exact absurd (by rw[e]) hdt⟩
      cases j with
      | zero=>simp at ho;subst ho;exact hdt
      | succ j=>exact g1 j o' (by omega) (by simpa using ho)
  ·rcases a5 t with ⟨j,o',s',g2,g3,g4,g5⟩|⟨g1,g2⟩
   ·exact .inl ⟨j+1,o',s',by simpa using g2,by simpa using g3,g4,g5⟩
   ·by_cases hdt:o.dst=some t
    ·exact .inl ⟨0,o,_,rfl,rfl,hdt,by rw[g2,hdt];simp[put,upd]⟩
    ·refine .inr ⟨fun j o' ho=>?_,by
      rw[g2]
      cases hd':o.dst with
      | none=>rfl
      | some d=>rw[hd'] at hdt;simp[put,upd];intro e;exact absurd (by rw[e]) hdt⟩
     cases j with
     | zero=>simp at ho;subst ho;exact hdt
     | succ j=>exact g1 j o' (by simpa using ho)

end Go.Proofs.YthhbglkokpablaaGreat.E
/- Operations whose order is drawn: the proof. -/
set_option linter.unusedVariables false
set_option linter.unusedSimpArgs false
namespace Go.Proofs.YthhbglkokpablaaGreat.E
open Go Go.RowKit

def mcut (M:Mp) (n:Nat):Mp:=fun b g=>if b<n then M b g else none
theorem mcut_lt {M:Mp} {n b g:Nat} (h:b<n):mcut M n b g=M b g:=by simp[mcut,h]
theorem mcut_some {M:Mp} {n b g:Nat} {x:Nat × Nat × Nat} (h:mcut M n b g=some x):b<n∧M b g=some x:=by
 unfold mcut at h
 split at h
 ·exact⟨‹_›,h⟩
 ·cases h
theorem mcut_le {M:Mp} {n:Nat}:MLe (mcut M n) M:=fun b g x h=>(mcut_some h).2
theorem mcut_mono {M M':Mp} {n n':Nat} (h:MLe M M') (hn:n≤n'):MLe (mcut M n) (mcut M' n'):=fun b g x e=>by
 obtain⟨h1,h2⟩:=mcut_some e
 rw[mcut_lt (by omega)];exact h _ _ _ h2

def Fi (sts:List St) (i:Nat):Foot:=match sts[i]? with
 | some s=>s.F
 | none=>noFoot

theorem Fi_map (sts:List St) (i:Nat):(sts.map (·.F)).getD i noFoot=Fi sts i:=by
 unfold Fi
 rw[List.getD_eq_getElem?_getD,List.getElem?_map]
 cases sts[i]? <;> rfl

/-- All that is known of a way through a drawn region. -/
structure Setup (P:Program) (sz:Nat) (ops:Array Oper) (T0:Env) (H0:AH) (sts:List St) (T':Env) (H':AH):Prop where
 len:sts.length=ops.size
 h0:stH sts H' 0=H0
 st:∀ (i:Nat) (o:Oper),ops[i]?=some o→∃ s:St,sts[i]?=some s∧StepAt P sz ops sts H' i o s
 tt:∀ (i:Nat) (s:St),sts[i]?=some s→∀ t:Nat,(∃ (j:Nat) (o:Oper) (s':St),j<i∧ops[j]?=some o∧sts[j]?=some s'∧o.dst=some t∧s.T t=s'.v)∨((∀ (j:Nat) (o:Oper),j<i→ops[j]?=some o→o.dst≠some t)∧s.T t=T0 t)
 te:∀ t:Nat,(∃ (j:Nat) (o:Oper) (s':St),ops[j]?=some o∧sts[j]?=some s'∧o.dst=some t∧T' t=s'.v)∨((∀ (j:Nat) (o:Oper),ops[j]?=some o→o.dst≠some t)∧T' t=T0 t)
 reg:regB ops=true
 cmp:∀ i j,i<j→j<ops.size→ordered ops i j=false→okPair (Fi sts i) (Fi sts j)

section
variable {P:Program} {sz:Nat} {ops:Array Oper} {T0:Env} {H0:AH} {sts:List St} {T':Env} {H':AH} (S:Setup P sz ops T0 H0 sts T' H')
include S

theorem Setup.end_:stH sts H' ops.size=H':=by
 unfold stH;rw[List.getElem?_eq_none (by rw[S.len];exact Nat.le_refl _)]

theorem Setup.ext {i:Nat} (hi:i<ops.size):Ext (Fi sts i).w (stH sts H' i) (stH sts H' (i+1)):=by
  obtain⟨s,h1,h2⟩:=S.st i ops[i] (Array.getElem?_eq_getElem hi)
  have:=h2.ext
  unfold Fi;rw[h1];exact this

theorem Setup.mono {i j : Nat} (h : i ≤ j) (hj : j ≤ ops.size) : (stH sts H' i).length ≤ (stH sts H' j).length := by
  induction j with
  | zero => have : i = 0 := by omega
            subst this; exact Nat.le_refl _
  | succ j ih =>
    by_cases hij : i = j + 1
    · subst hij;exact Nat.le_refl _
    · exact Nat.le_trans (ih (by omega) (by omega)) (S.ext (by omega)).1

theorem Setup.same {i j b : Nat} (h : i ≤ j) (hj : j ≤ ops.size) (hb : b < (stH sts H' i).length) (hw : ∀ k, i ≤ k → k < j → b ∉ (Fi sts k).w) : (stH sts H' j)[b]? = (stH sts H' i)[b]? := by
  induction j with
  | zero => have : i = 0 := by omega
            subst this; rfl
  | succ j ih =>
    by_cases hij : i = j + 1
    · subst hij;rfl
    · have h1:=ih (by omega) (by omega) (fun k a b=>hw k a (by omega))
      have h2:=(S.ext (i:=j) (by omega)).2 b (Nat.lt_of_lt_of_le hb (S.mono (by omega) (by omega))) (hw j (by omega) (by omega))
      rw[h2,h1]
end

/-- How the world stands to the machine while some operations, listed, are done. -/
structure Inv (P:Program) (sz N0:Nat) (ops:Array Oper) (T0:Env) (H0:AH) (sts:List St) (H':AH) (M1:Mp) (w1:World) (L:Nat→Prop) (M:Mp) (a:Act) (w:World):Prop where
 asz:a.tmps.size=sz
 adf:a.defers=[]
 ext:MLe M1 M
 size:w1.heap.size≤w.heap.size
 os:w.os=w1.os
 tape:w.tape=w1.tape
 output:w.output=w1.output
 frame:∀ c,c<w1.heap.size→(∀ i,L i→∀ b∈(Fi sts i).w,∀ g o n,M1 b g≠some (c,o,n))→w.heap[c]?=w1.heap[c]?
 keep:∀ b g,b<H0.length→(∀ i,L i→b∉(Fi sts i).w)→M b g=M1 b g
 absent:∀ b,b<H0.length→(∀ g,M1 b g=none)→∀ g,M b g=none
 fresh:∀ {b g c o n},M b g=some (c,o,n)→w1.heap.size≤c∨∃ g',M1 b g'=some (c,o,n)
 wown:∀ i,L i→∀ b∈(Fi sts i).w,b<H0.length→(∃ g x,M1 b g=some x)∧∀ g c o n,M1 b g=some (c,o,n)→N0≤c
 dom:∀ {b g x},M b g=some x→b<H0.length∨∃ i,L i∧i<ops.size∧(stH sts H' i).length≤b∧b<(stH sts H' (i+1)).length
 hp:Hp N0 M w
 dst:∀ (i:Nat) (o:Oper) (s:St) (d:Nat),L i→ops[i]?=some o→sts[i]?=some s→o.dst=some d→VR (mcut M (stH sts H' (i+1)).length) s.v (a.tmps.getD d undef)
 old:∀ (t:Nat),(∀ (i:Nat) (o:Oper),L i→ops[i]?=some o→o.dst≠some t)→VR M1 (T0 t) (a.tmps.getD t undef)
 cont:∀ (j b:Nat),j≤ops.size→(∀ i,i<j→(b∈(Fi sts i).w∨((stH sts H' i).length≤b∧b<(stH sts H' (i+1)).length))→L i)→(∀ i,j≤i→i<ops.size→b∈(Fi sts i).w→¬ L i) →
  ∀ k,(stH sts H' j)[b]?=some k→(∃ g x,M b g=some x)→Cont N0 (mcut M (stH sts H' j).length) w b k
 pres:∀ i,L i→∀ b∈(Fi sts i).w,∃ g x,M b g=some x
 closed:∀ (i:Nat) (o:Oper),ops[i]?=some o→L i→∀ k∈ons o,L k
 lt:∀ i,L i→i<ops.size

theorem Cont.mono {N0:Nat} {M M':Mp} {w:World} {b:Nat} {k:Blk} (h:Cont N0 M w b k) (hM:MLe M M') (hn:∀ g,M b g=none→M' b g=none):Cont N0 M' w b k:=by
 obtain⟨c,o,n,h1,h2,h3,h4⟩:=h
 exact⟨c,o,n,hM _ _ _ h1,fun g hg=>hn g (h2 g hg),h3.keep hM rfl,h4⟩

theorem Hp.sub {N0:Nat} {M M':Mp} {w:World} (h:Hp N0 M w) (hM:MLe M' M):Hp N0 M' w:=
 ⟨fun e=>h.lt (hM _ _ _ e),fun e hN=>h.own (hM _ _ _ e) hN,fun e e' hN=>h.inj (hM _ _ _ e) (hM _ _ _ e') hN,fun e e' hN=>h.hom (hM _ _ _ e) (hM _ _ _ e') hN⟩

section
variable {P:Program} {sz N0:Nat} {ops:Array Oper} {T0:Env} {H0:AH} {sts:List St} {T':Env} {H':AH} (S:Setup P sz ops T0 H0 sts T' H') {M1:Mp} {w1:World} (hdom1:∀ {b g x},M1 b g=some x→b<H0.length) {L:Nat→Prop} {M:Mp} {a:Act} {w:World} (I:Inv P sz N0 ops T0 H0 sts H' M1 w1 L M a w)
include S hdom1 I

/-- What an operation that may come next reads in its slots. -/
theorem Inv.slot {i:Nat} {o:Oper} {s:St} (ho:ops[i]?=some o) (hs:sts[i]?=some s) (hni:¬ L i) (hk:∀ k∈ons o,L k) {t:Nat} (ht:t∈o.looksAt ops) :
  VR (mcut M (stH sts H' i).length) (s.T t) (a.tmps.getD t undef):=by
 have hi:i<ops.size:=(Array.getElem?_eq_some_iff.1 ho).1
 rcases S.tt i s hs t with ⟨j,oj,sj,hji,hj,hsj,hdj,e⟩|⟨hno,e⟩
 ·have hLj:L j:=by
   cases hord:ordered ops j i with
   | true=>exact ordered_done I.closed hord ho hk
   | false=>exact absurd ht (((regB_apart S.reg hji hj ho).2 hord).1 t hdj)
  rw[e]
  exact(I.dst j oj sj t hLj hj hsj hdj).mono (mcut_mono (MLe.refl _) (S.mono (by omega) (by omega)))
 ·rw[e]
  refine(I.old t (fun j oj hLj hj hd=>?_)).mono (fun b g x h=>?_)
  ·have hjs:=I.lt j hLj
   rcases Nat.lt_trichotomy j i with h|h|h
   ·exact hno j oj h hj hd
   ·subst h;exact hni hLj
   ·cases hord:ordered ops i j with
    | true=>exact hni (ordered_done I.closed hord hj (fun k hk=>I.closed j oj hj hLj k hk))
    | false=>exact absurd ht (((regB_apart S.reg h ho hj).2 hord).2 t hd)
  ·rw[mcut_lt (Nat.lt_of_lt_of_le (hdom1 h) (by have:=S.mono (Nat.zero_le i) (by omega);rw[S.h0] at this;exact this))]
   exact I.ext _ _ _ h

end

section
variable {P:Program} {sz N0:Nat} {ops:Array Oper} {T0:Env} {H0:AH} {sts:List St} {T':Env} {H':AH} (S:Setup P sz ops T0 H0 sts T' H') {M1:Mp} {w1:World} {L:Nat→Prop} {M:Mp} {a:Act} {w:World} (I:Inv P sz N0 ops T0 H0 sts H' M1 w1 L M a w)
include S I

/-- A block that is there was made by what is done. -/
theorem Inv.made {b g:Nat} {x:Nat × Nat × Nat} (h:M b g=some x) {i:Nat} (hi:i<ops.size) (hb:(stH sts H' i).length≤b∧b<(stH sts H' (i+1)).length):L i:=by
 rcases I.dom h with h|⟨j,hL,hj,hb1,hb2⟩
 ·have:=S.mono (Nat.zero_le i) (by omega)
  rw[S.h0] at this;omega
 ·rcases Nat.lt_trichotomy i j with h|h|h
  ·have:=S.mono (i:=i+1) (j:=j) (by omega) (by omega);omega
  ·subst h;exact hL
  ·have:=S.mono (i:=j+1) (j:=i) (by omega) (by omega);omega

/-- What an operation that may come next finds in the blocks that it reads. -/
theorem Inv.pre {i:Nat} {o:Oper} (ho:ops[i]?=some o) (hni:¬ L i) (hk:∀ k∈ons o,L k) (hlow:N0≤w.heap.size) :
  Pre N0 (stH sts H' i) (Fi sts i).r (mcut M (stH sts H' i).length) w:=by
 have hi:i<ops.size:=(Array.getElem?_eq_some_iff.1 ho).1
 refine⟨fun h=>(mcut_some h).1,I.hp.sub mcut_le,hlow,fun {b k} hR hkb hx=>?_⟩
 obtain⟨g,x,hx⟩:=hx
 have hMx:=(mcut_some hx).2
 refine I.cont i b (by omega) (fun j hj hb=>?_) (fun j hj hjs hb hLj=>?_) k hkb ⟨g,x,hMx⟩
 ·rcases hb with hb|hb
  ·cases hord:ordered ops j i with
   | true=>exact ordered_done I.closed hord ho hk
   | false=>exact absurd hR ((S.cmp j i hj hi hord).1 b hb).1
  ·exact Inv.made S I hMx (by omega) hb
 ·rcases Nat.lt_or_ge i j with h|h
  ·have hoj:ops[j]?=some ops[j]:=Array.getElem?_eq_getElem hjs
   cases hord:ordered ops i j with
   | true=>exact hni (ordered_done I.closed hord hoj (fun k hk=>I.closed j _ hoj hLj k hk))
   | false=>exact absurd hR ((S.cmp i j h hjs hord).2 b hb).1
  ·have:i=j:=by omega
   subst this;exact hni hLj

/-- One more is done. -/
theorem Inv.step {i:Nat} {o:Oper} {s:St} (ho:ops[i]?=some o) (hs:sts[i]?=some s) (hsd:dok sz o.dst=true) (hsH:stH sts H' i=s.H) (hni:¬ L i) (hk:∀ k∈ons o,L k)
    {v':Value} {Mi:Mp} {w':World} (hv:VR Mi s.v v') (p:Post N0 (stH sts H' i) (stH sts H' (i+1)) (Fi sts i).w (mcut M (stH sts H' i).length) Mi w w') :
    Inv P sz N0 ops T0 H0 sts H' M1 w1 (fun j=>L j∨j=i) (fun b g=>if b<(stH sts H' (i+1)).length then Mi b g else M b g) (a.put o.dst v') w':=by
  have hi:i<ops.size:=(Array.getElem?_eq_some_iff.1 ho).1
  have hm1:(stH sts H' i).length≤(stH sts H' (i+1)).length:=S.mono (by omega) (by omega)
  have h01:H0.length≤(stH sts H' i).length:=by have:=S.mono (Nat.zero_le i) (by omega);rw[S.h0] at this;exact this
  -- the new map, part by part
  generalize hM':(fun b g=>if b<(stH sts H' (i+1)).length then Mi b g else M b g)=M'
  have lo:∀ b g,b<(stH sts H' (i+1)).length→M' b g=Mi b g:=fun b g h=>by rw[← hM'];simp[h]
  have hiM:∀ b g,(stH sts H' (i+1)).length≤b→M' b g=M b g:=fun b g h=>by rw[← hM'];simp[Nat.not_lt.2 h]
  have none_new:∀ b g,(stH sts H' i).length≤b→b<(stH sts H' (i+1)).length→M b g=none:=fun b g h1 h2=>by
    cases hx:M b g with
    | none=>rfl
    | some x=>exact absurd (Inv.made S I hx hi ⟨h1,h2⟩) hni
  have MM':MLe M M':=fun b g x h=>by
    by_cases hb:b<(stH sts H' (i+1)).length
    · rw[lo b g hb]
      by_cases hb2:b<(stH sts H' i).length
      · exact p.ext _ _ _ (by rw[mcut_lt hb2];exact h)
      · rw[none_new b g (by omega) hb] at h;cases h
    · rw[hiM b g (by omega)];exact h
  have MiM':MLe Mi M':=fun b g x h=>by rw[lo b g (p.dom h)];exact h
  have MiC:MLe Mi (mcut M' (stH sts H' (i+1)).length):=fun b g x h=>by rw[mcut_lt (p.dom h)];exact MiM' _ _ _ h
  -- what was there before, if it is there now
  have was:∀ b,b<(stH sts H' i).length→(∃ g x,Mi b g=some x)→∃ g x,M b g=some x:=fun b hb ⟨g,x,h⟩=>by
    refine Classical.byContradiction fun hn=>?_
    have hall:∀ g,mcut M (stH sts H' i).length b g=none:=fun g=>by
      rw[mcut_lt hb]
      cases h':M b g with
      | none=>rfl
      | some x=>exact absurd ⟨g,x,h'⟩ hn
    rw[p.absent b hb hall g] at h;cases h
  have keepM:∀ b g,b∉(Fi sts i).w→¬ ((stH sts H' i).length≤b∧b<(stH sts H' (i+1)).length)→M' b g=M b g:=fun b g hw hn=>by
    by_cases hb:b<(stH sts H' (i+1)).length
    · have hb2:b<(stH sts H' i).length:=by omega
      rw[lo b g hb,p.keep b g hb2 hw,mcut_lt hb2]
    · exact hiM b g (by omega)
  have wlt:∀ b,b∈(Fi sts i).w→b<(stH sts H' i).length∧∃ g x,M b g=some x:=fun b hb=>by
    obtain⟨⟨g,x,h⟩,_⟩:=p.wown b hb
    exact⟨(mcut_some h).1,g,x,(mcut_some h).2⟩
  have blk:∀ b g c o n,b∉(Fi sts i).w→M b g=some (c,o,n)→w'.heap[c]?=w.heap[c]?:=fun b g c o n hw h=>by
    refine p.frame c (I.hp.lt h) (fun b' hb' g' o' n' h'=>?_)
    have hN:=(p.wown b' hb').2 _ _ _ _ h'
    have:=I.hp.inj h (mcut_some h').2 hN
    exact hw (this ▸ hb')
  refine
    { asz := by cases hd : o.dst <;> simp [Act.put, hd, I.asz]
      adf := by cases hd : o.dst <;> simp [Act.put, hd, I.adf]
      ext := I.ext.trans MM'
      size:=Nat.le_trans I.size p.size
      os:=p.os.trans I.os
      tape:=p.tape.trans I.tape
      output:=p.output.trans I.output
      frame:=fun c hc hw=>?_
      keep:=fun b g hb hw=>?_
      absent:=fun b hb hn g=>?_
      fresh:=fun {b g c oo n} h=>?_
      wown:=fun j hj b hb hlt=>?_
      dom:=fun {b g x} h=>?_
      hp:=?_
      dst:=fun j oj sj d hj hoj hsj hd=>?_
      old:=fun t ht=>?_
      cont:=fun j b hj h1 h2 k hkb hx=>?_
      pres:=fun j hj b hb=>?_
      closed:=fun j oj hoj hj k hk'=>?_
      lt:=fun j hj=>?_ }
  · -- frame
    have f1:=I.frame c hc (fun j hj b hb g oo n=>hw j (.inl hj) b hb g oo n)
    refine(p.frame c (Nat.lt_of_lt_of_le hc I.size) (fun b hb g oo n h=>?_)).trans f1
    rcases I.fresh (mcut_some h).2 with h'|⟨g',h'⟩
    · omega
    · exact hw i (.inr rfl) b hb g' oo n h'
  · rw[keepM b g (hw i (.inr rfl)) (by omega)]
    exact I.keep b g hb (fun j hj=>hw j (.inl hj))
  · cases hx:M' b g with
    | none=>rfl
    | some x=>
      have hMi:Mi b g=some x:=by rw[← lo b g (by omega)];exact hx
      obtain⟨g',x',h'⟩:=was b (by omega) ⟨g,x,hMi⟩
      rw[I.absent b hb hn g'] at h';cases h'
  · by_cases hb:b<(stH sts H' (i+1)).length
    · rw[lo b g hb] at h
      rcases p.fresh h with h'|⟨g',h'⟩
      · exact .inl (Nat.le_trans I.size h')
      · exact I.fresh (mcut_some h').2
    · rw[hiM b g (by omega)] at h;exact I.fresh h
  · rcases hj with hj|rfl
    · exact I.wown j hj b hb hlt
    · refine⟨?_,fun g c oo n h=>(p.wown b hb).2 g c oo n (by rw[mcut_lt (wlt b hb).1];exact I.ext _ _ _ h)⟩
      refine Classical.byContradiction fun hn=>?_
      have hall:∀ g,M1 b g=none:=fun g=>by
        cases h':M1 b g with
        | none=>rfl
        | some x=>exact absurd ⟨g,x,h'⟩ hn
      obtain⟨_,g,x,h⟩:=wlt b hb
      rw[I.absent b hlt hall g] at h;cases h
  · by_cases hb:b<(stH sts H' (i+1)).length
    · by_cases hb2:b<(stH sts H' i).length
      · rw[lo b g hb] at h
        obtain⟨g',x',h'⟩:=was b hb2 ⟨g,x,h⟩
        rcases I.dom h' with h''|⟨j,hj,hr⟩
        · exact .inl h''
        · exact .inr ⟨j,.inl hj,hr⟩
      · exact .inr ⟨i,.inr rfl,hi,by omega,hb⟩
    · rw[hiM b g (by omega)] at h
      rcases I.dom h with h''|⟨j,hj,hr⟩
      · exact .inl h''
      · exact .inr ⟨j,.inl hj,hr⟩
  · -- hp
    have far:∀ {b g c oo n},(stH sts H' (i+1)).length≤b→M b g=some (c,oo,n)→w'.heap[c]?=w.heap[c]?:=fun {b g c oo n} hb h=>
      blk b g c oo n (fun hw=>by have:=(wlt b hw).1;omega) h
    refine⟨fun {b g c oo n} h=>?_,fun {b g c oo n} h hN=>?_,fun {b g c oo n b' g' o' n'} h h' hN=>?_,fun {b g c oo n g' c' o' n'} h h' hN=>?_⟩
    · by_cases hb:b<(stH sts H' (i+1)).length
      · rw[lo b g hb] at h;exact p.hp.lt h
      · rw[hiM b g (by omega)] at h;exact Nat.lt_of_lt_of_le (I.hp.lt h) p.size
    · by_cases hb:b<(stH sts H' (i+1)).length
      · rw[lo b g hb] at h;exact p.hp.own h hN
      · rw[hiM b g (by omega)] at h
        obtain⟨q1,q2⟩:=I.hp.own h hN
        have hc:=far (by omega) h
        exact⟨by rw[hc];exact q1,fun j hj=>by rw[← q2 j hj];exact frozen_keep hc⟩
    · by_cases hb:b<(stH sts H' (i+1)).length <;> by_cases hb':b'<(stH sts H' (i+1)).length
      · rw[lo b g hb] at h;rw[lo b' g' hb'] at h';exact p.hp.inj h h' hN
      · rw[lo b g hb] at h;rw[hiM b' g' (by omega)] at h'
        rcases p.fresh h with q|⟨g'',q⟩
        · have:=I.hp.lt h';omega
        · exact I.hp.inj (mcut_some q).2 h' hN
      · rw[hiM b g (by omega)] at h;rw[lo b' g' hb'] at h'
        rcases p.fresh h' with q|⟨g'',q⟩
        · have:=I.hp.lt h;omega
        · exact I.hp.inj h (mcut_some q).2 hN
      · rw[hiM b g (by omega)] at h;rw[hiM b' g' (by omega)] at h';exact I.hp.inj h h' hN
    · by_cases hb:b<(stH sts H' (i+1)).length
      · rw[lo b g hb] at h;rw[lo b g' hb] at h';exact p.hp.hom h h' hN
      · rw[hiM b g (by omega)] at h;rw[hiM b g' (by omega)] at h';exact I.hp.hom h h' hN
  · -- dst
    rcases hj with hj|rfl
    · have hjs:=I.lt j hj
      have hne:o.dst≠some d:=fun e=>by
        rcases Nat.lt_trichotomy i j with h|h|h
        · exact(regB_apart S.reg h ho hoj).1 d e hd
        · subst h;exact hni hj
        · exact(regB_apart S.reg h hoj ho).1 d hd e
      have hget:(a.put o.dst v').tmps.getD d undef=a.tmps.getD d undef:=by
        cases hd':o.dst with
        | none=>rfl
        | some d'=>
          rw[hd'] at hne
          simp only[Act.put,Array.getD_eq_getD_getElem?]
          rw[Array.getElem?_setIfInBounds_ne (fun e=>hne (by rw[e]))]
      rw[hget]
      exact(I.dst j oj sj d hj hoj hsj hd).mono (mcut_mono MM' (Nat.le_refl _))
    · rw[ho] at hoj;cases hoj
      rw[hs] at hsj;cases hsj
      rw[hd] at hsd
      simp only[dok,decide_eq_true_eq] at hsd
      have hget:(a.put (some d) v').tmps.getD d undef=v':=by
        simp only[Act.put,Array.getD_eq_getD_getElem?]
        rw[Array.getElem?_setIfInBounds_self_of_lt (by rw[I.asz];exact hsd)]
        rfl
      rw[hd,hget]
      exact hv.mono MiC
  · -- old
    have hne:o.dst≠some t:=ht i o (.inr rfl) ho
    have hget:(a.put o.dst v').tmps.getD t undef=a.tmps.getD t undef:=by
      cases hd':o.dst with
      | none=>rfl
      | some d'=>
        rw[hd'] at hne
        simp only[Act.put,Array.getD_eq_getD_getElem?]
        rw[Array.getElem?_setIfInBounds_ne (fun e=>hne (by rw[e]))]
    rw[hget]
    exact I.old t (fun j oj hj hoj=>ht j oj (.inl hj) hoj)
  · -- cont
    have fin:∀ (hlt:i<j),(∀ k',i+1≤k'→k'<j→b∉(Fi sts k').w)→(b∈(Fi sts i).w∨(stH sts H' i).length≤b)→b<(stH sts H' (i+1)).length→Cont N0 (mcut M' (stH sts H' j).length) w' b k:=by
      intro hlt hnw hor hb
      rw[S.same (i:=i+1) (j:=j) (by omega) hj hb hnw] at hkb
      obtain⟨g,x,hx⟩:=hx
      rw[lo b g hb] at hx
      refine(p.cont hor hkb ⟨g,x,hx⟩).mono (MiC.trans (mcut_mono (MLe.refl _) (S.mono (by omega) hj))) (fun g hg=>?_)
      unfold mcut
      split
      · rw[lo b g hb];exact hg
      · rfl
    by_cases hw:b∈(Fi sts i).w
    · have hji:i<j:=by
        rcases Nat.lt_or_ge i j with h|h
        · exact h
        · exact absurd (.inr rfl) (h2 i h hi hw)
      refine fin hji (fun k' hk1 hk2 hw'=>?_) (.inl hw) (by have:=(wlt b hw).1;omega)
      have hk's:k'<ops.size:=by omega
      have hok':ops[k']?=some ops[k']:=Array.getElem?_eq_getElem hk's
      rcases h1 k' hk2 (.inl hw') with hL|e
      · cases hord:ordered ops i k' with
        | true=>exact hni (ordered_done I.closed hord hok' (fun q hq=>I.closed k' _ hok' hL q hq))
        | false=>exact((S.cmp i k' (by omega) hk's hord).1 b hw).2 hw'
      · omega
    · by_cases hcr:(stH sts H' i).length≤b∧b<(stH sts H' (i+1)).length
      · have hji:i<j:=by
          rcases Nat.lt_or_ge i j with h|h
          · exact h
          · have:=(List.getElem?_eq_some_iff.1 hkb).1
            have:=S.mono h (by omega)
            omega
        refine fin hji (fun k' hk1 hk2 hw'=>?_) (.inr hcr.1) hcr.2
        rcases h1 k' hk2 (.inl hw') with hL|e
        · obtain⟨g,x,h⟩:=I.pres k' hL b hw'
          rw[none_new b g hcr.1 hcr.2] at h;cases h
        · omega
      · have hMx:∃ g x,M b g=some x:=by
          obtain⟨g,x,h⟩:=hx
          rw[keepM b g hw hcr] at h;exact⟨g,x,h⟩
        have hc:=I.cont j b hj (fun k' hk1 hor=>by
          rcases h1 k' hk1 hor with h|e
          · exact h
          · subst e;exact absurd hor (fun h=>h.elim hw hcr)) (fun k' hk1 hk2 hw' hL=>h2 k' hk1 hk2 hw' (.inl hL)) k hkb hMx
        obtain⟨c,oo,n,q1,q2,q3,q4⟩:=hc
        have hcc:=blk b _ c oo n hw (mcut_some q1).2
        have hle:MLe (mcut M (stH sts H' j).length) (mcut M' (stH sts H' j).length):=mcut_mono MM' (Nat.le_refl _)
        refine⟨c,oo,n,hle _ _ _ q1,fun g hg=>?_,q3.keep hle hcc,q4⟩
        have:=q2 g hg
        unfold mcut at this ⊢
        split
        · rw[if_pos ‹_›] at this;rw[keepM b g hw hcr];exact this
        · rfl
  · rcases hj with hj|rfl
    · obtain⟨g,x,h⟩:=I.pres j hj b hb;exact⟨g,x,MM' _ _ _ h⟩
    · obtain⟨_,g,x,h⟩:=wlt b hb;exact⟨g,x,MM' _ _ _ h⟩
  · rcases hj with hj|rfl
    · exact .inl (I.closed j oj hoj hj k hk')
    · rw[ho] at hoj;cases hoj;exact .inl (hk k hk')
  · rcases hj with hj|rfl
    · exact I.lt j hj
    · exact hi

end
end Go.Proofs.YthhbglkokpablaaGreat.E
/- Operations whose order is drawn: what the world comes to. -/
set_option linter.unusedVariables false
set_option linter.unusedSimpArgs false
namespace Go.Proofs.YthhbglkokpablaaGreat.E
open Go Go.RowKit

theorem StR.still {c:Ctx} (pc:Pre c.N0 c.H0 none c.M0 c.w0) {sz:Nat} {T:Env} {H:AH} {D:List Nat} {a:Act} {w w':World} (h:StR c sz T H D a w) (hh:w'.heap=w.heap) (ho:w'.os=w.os) (ht:w'.tape=w.tape) (hu:w'.output=w.output):StR c sz T H D a w':=by
 obtain⟨M,p,q,ha⟩:=h
 have st:=Post.still p hh ho ht hu
 have:=q.trans st pc.hp pc.dom p
 simp only[List.filter_nil,List.append_nil] at this
 exact⟨M,Post.all p st,this,ha⟩

theorem Setup.of_way {P:Program} {sz:Nat} {ops:Array Oper} {T T':Env} {H H':AH} {sts:List St} (h:Way P sz ops ops.toList T H sts T' H') (hr:regB ops=true) (hc:Compat ops (sts.map (·.F))):Setup P sz ops T H sts T' H':=by
 obtain⟨a1,a2,a3,a4,a5⟩:=h.at
 refine⟨by simpa using a1,a2,fun i o ho=>a3 i o (by simpa using ho),fun i s hs t=>?_,fun t=>?_,hr,fun i j hij hj ho=>?_⟩
 ·rcases a4 i s hs t with ⟨j,o,s',g1,g2,g3⟩|⟨g1,g2⟩
  ·exact .inl ⟨j,o,s',g1,by simpa using g2,g3⟩
  ·exact .inr ⟨fun j o hj ho=>g1 j o hj (by simpa using ho),g2⟩
 ·rcases a5 t with ⟨j,o,s',g2,g3⟩|⟨g1,g2⟩
  ·exact .inl ⟨j,o,s',by simpa using g2,g3⟩
  ·exact .inr ⟨fun j o ho=>g1 j o (by simpa using ho),g2⟩
 ·have:=hc i j hij hj ho
  rwa [Fi_map,Fi_map] at this

section
variable {P:Program} {sz N0:Nat} {ops:Array Oper} {T0:Env} {H0:AH} {sts:List St} {T':Env} {H':AH} (S:Setup P sz ops T0 H0 sts T' H') {M1:Mp} {w1:World} (p1:Pre N0 H0 none M1 w1)
include S p1

/-- Where nothing is done yet. -/
theorem Inv.start {a:Act} (ha:ActR M1 sz T0 a):Inv P sz N0 ops T0 H0 sts H' M1 w1 (fun _=>False) M1 a w1 where
 asz:=ha.1
 adf:=ha.2.1
 ext:=MLe.refl _
 size:=Nat.le_refl _
 os:=rfl
 tape:=rfl
 output:=rfl
 frame:=fun _ _ _=>rfl
 keep:=fun _ _ _ _=>rfl
 absent:=fun _ _ h=>h
 fresh:=fun h=>.inr ⟨_,h⟩
 wown:=fun _ h=>h.elim
 dom:=fun h=>.inl (p1.dom h)
 hp:=p1.hp
 dst:=fun _ _ _ _ h=>h.elim
 old:=fun t _=>ha.2.2 t
 cont:=fun j b hj h1 h2 k hk hx=>by
  have hb:b<H0.length:=by obtain⟨g,x,h⟩:=hx;exact p1.dom h
  have h0:b<(stH sts H' 0).length:=by rw[S.h0];exact hb
  have:=S.same (i:=0) (j:=j) (by omega) hj h0 (fun k' _ hk' hw=>h1 k' hk' (.inl hw))
  rw[this,S.h0] at hk
  have hm:=S.mono (Nat.zero_le j) hj
  rw[S.h0] at hm
  refine(p1.cont trivial hk hx).mono (fun b' g x h=>by rw[mcut_lt (Nat.lt_of_lt_of_le (p1.dom h) hm)];exact h) (fun g hg=>?_)
  unfold mcut
  split
  ·exact hg
  ·rfl
 pres:=fun _ h=>h.elim
 closed:=fun _ _ _ h=>h.elim
 lt:=fun _ h=>h.elim

/-- Where all is done. -/
theorem Inv.done {L:Nat→Prop} (hL:∀ i,i<ops.size→L i) {M:Mp} {a:Act} {w:World} (I:Inv P sz N0 ops T0 H0 sts H' M1 w1 L M a w) :
  Post N0 H0 H' ((sts.flatMap fun s=>s.F.w).filter fun b=>decide (b<H0.length)) M1 M w1 w∧ActR M sz T' a:=by
 have he:=S.end_
 have hm:=S.mono (Nat.zero_le ops.size) (Nat.le_refl _)
 rw[S.h0,he] at hm
 have inW:∀ b,b<H0.length→b∉((sts.flatMap fun s=>s.F.w).filter fun b=>decide (b<H0.length))→∀ i,b∉(Fi sts i).w:=fun b hb hn i hw=>by
  unfold Fi at hw
  cases hs:sts[i]? with
  | none=>rw[hs] at hw;cases hw
  | some s=>
   rw[hs] at hw
   exact hn (List.mem_filter.2 ⟨List.mem_flatMap.2 ⟨s,List.mem_of_getElem? hs,hw⟩,by simpa using hb⟩)
 have ofW:∀ b,b∈((sts.flatMap fun s=>s.F.w).filter fun b=>decide (b<H0.length))→b<H0.length∧∃ i,i<ops.size∧b∈(Fi sts i).w:=fun b hb=>by
  obtain⟨h1,h2⟩:=List.mem_filter.1 hb
  obtain⟨s,hs,hw⟩:=List.mem_flatMap.1 h1
  obtain⟨i,hi,e⟩:=List.getElem_of_mem hs
  refine⟨by simpa using h2,i,by rw[← S.len];exact hi,?_⟩
  unfold Fi
  rw[List.getElem?_eq_getElem hi,e];exact hw
 refine⟨⟨hm,fun b hb hn=>?_,I.ext,fun b g hb hn=>I.keep b g hb (fun i _=>inW b hb hn i),fun {b g x} h=>?_,I.absent,I.fresh,fun c hc hW=>I.frame c hc (fun i _ b hb g o n h=>?_),fun b hb=>?_,I.hp,fun {b k} hb hk hx=>?_,I.size,I.os,I.tape,I.output⟩,⟨I.asz,I.adf,fun t=>?_⟩⟩
 ·have:=S.same (i:=0) (j:=ops.size) (by omega) (Nat.le_refl _) (by rw[S.h0];exact hb) (fun k _ _=>inW b hb hn k)
  rw[he,S.h0] at this;exact this
 ·rcases I.dom h with h|⟨i,_,hi,h1,h2⟩
  ·omega
  ·have:=S.mono (i:=i+1) (j:=ops.size) (by omega) (Nat.le_refl _)
   rw[he] at this;omega
 ·exact hW b (Classical.byContradiction fun hn=>inW b (p1.dom h) hn i hb) g o n h
 ·obtain⟨hb',i,hi,hw⟩:=ofW b hb
  exact I.wown i (hL i hi) b hw hb'
 ·have hc:=I.cont ops.size b (Nat.le_refl _) (fun i hi _=>hL i hi) (fun i h1 h2=>by omega) k (by rw[he];exact hk) hx
  rw[he] at hc
  have hlt:=(List.getElem?_eq_some_iff.1 hk).1
  exact hc.mono mcut_le (fun g hg=>by rw[mcut_lt hlt] at hg;exact hg)
 ·rcases S.te t with ⟨j,o,s,h1,h2,h3,h4⟩|⟨h1,h2⟩
  ·rw[h4]
   exact(I.dst j o s t (hL j (Array.getElem?_eq_some_iff.1 h1).1) h1 h2 h3).mono mcut_le
  ·rw[h2]
   exact(I.old t (fun i o _ ho=>h1 i o ho)).mono I.ext
end

/-- A region whose order is drawn comes to what the text's order comes to. -/
theorem Way.drawn {P:Program} (hm:P.follows .mixedOrders=true) {sz:Nat} {ops:Array Oper} {c:Ctx} (pc:Pre c.N0 c.H0 none c.M0 c.w0) {Q:Exit→Act→World→Prop} {id:Nat} {T T':Env} {H H':AH} {sts:List St}
  (hw:Way P sz ops ops.toList T H sts T' H') (hr:regB ops=true) (hc:Compat ops (sts.map (·.F))) {D:List Nat} {a:Act} {w:World} (h:StR c sz T H D a w)
  (hq:∀ a' w',StR c sz T' H' (D++dirty c.H0.length sts) a' w'→Q .normal a' w'):(Code.region id ops true).wp P Q a w:=by
 have S:=Setup.of_way hw hr hc
 have hr0:=hr
 have h1:=StR.still pc h (w':={ w with drawn:=w.drawn+1 }) rfl rfl rfl rfl
 obtain⟨M1,p1,q1,ha⟩:=h1
 refine wp_region_any hm ?_
 generalize hw1:({ w with drawn:=w.drawn+1 }:World)=w1 at *
 have final:∀ {L:Nat→Prop} (hL:∀ i,i<ops.size→L i) {M:Mp} {a:Act} {w:World},Inv P sz c.N0 ops T H sts H' M1 w1 L M a w→Q .normal a w:=fun {L} hL {M a w} I=>by
  obtain⟨g1,g2⟩:=Inv.done S p1 hL I
  have:=q1.trans g1 pc.hp pc.dom p1
  refine hq a w ⟨M,Post.all p1 g1,?_,g2⟩
  have e:((sts.flatMap fun s=>s.F.w).filter fun b=>decide (b<H.length)).filter (fun b=>decide (b<c.H0.length))=dirty c.H0.length sts:=by
   unfold dirty
   rw[List.filter_filter,List.filter_flatMap]
   congr 1
   funext s
   apply List.filter_congr
   intro b _
   have:=q1.le
   by_cases hb:b<c.H0.length
   ·simp[hb];omega
   ·simp[hb]
  rwa [e] at this
 have key:∀ (fuel:Nat) (listed:Array Bool) (U:List Nat) (M:Mp) (a:Act) (w:World),listed.size=ops.size→U.Nodup→(∀ u∈U,u<ops.size)→U.length=fuel→(∀ i,i<ops.size→(i∈U↔listed.getD i false=false)) →
   c.N0≤w.heap.size→Inv P sz c.N0 ops T H sts H' M1 w1 (fun i=>listed.getD i false=true) M a w→wpAny P .any ops Q fuel listed a w:=by
  intro fuel
  induction fuel with
  | zero=>
   intro listed U M a w hsz hnd hUs hlen hU hlow I
   have hU0:U=[]:=List.eq_nil_of_length_eq_zero hlen
   subst hU0
   have hL:∀ i,i<ops.size→listed.getD i false=true:=fun i hi=>by
    have:=hU i hi
    simp at this
    simpa using this
   refine⟨?_,final hL I⟩
   apply List.eq_nil_iff_forall_not_mem.2
   intro i hi
   obtain⟨h0,o,ho,_⟩:=mem_ready.1 hi
   have:=hL i (Array.getElem?_eq_some_iff.1 ho).1
   have hlt:i<listed.size:=by rw[hsz];exact(Array.getElem?_eq_some_iff.1 ho).1
   simp[hlt] at h0 this
   rw[h0] at this;cases this
  | succ fuel ih=>
   intro listed U M a w hsz hnd hUs hlen hU hlow I
   refine⟨fun hr=>?_,fun i hi=>?_⟩
   ·-- the first one that is not done could be done
    exfalso
    have hne:U≠[]:=fun e=>by rw[e] at hlen;simp at hlen
    obtain⟨u,hu⟩:=List.exists_mem_of_ne_nil U hne
    have all:∀ u,u<ops.size→listed.getD u false=true:=by
     intro u
     induction u using Nat.strongRecOn with
     | _ u ihu=>
      intro hus
      cases hl:listed.getD u false with
      | true=>rfl
      | false=>
       exfalso
       have hou:ops[u]?=some ops[u]:=Array.getElem?_eq_getElem hus
       have hlt:u<listed.size:=by rw[hsz];exact hus
       have:u∈Region.ready .any ops listed:=mem_ready.2 ⟨by simpa [hlt] using hl,ops[u],hou,fun e he hb=>by
        have hk:e.on∈ons ops[u]:=List.mem_map.2 ⟨e,List.mem_filter.2 ⟨by simpa using he,hb⟩,rfl⟩
        have hlt:=regB_ons hr0 hou _ hk
        exact ihu e.on hlt (by omega)⟩
       rw[hr] at this;cases this
    have:=(hU u (hUs u hu)).1 hu
    rw[all u (hUs u hu)] at this;cases this
   ·obtain⟨h0,o,ho,hall⟩:=mem_ready.1 hi
    have his:i<ops.size:=(Array.getElem?_eq_some_iff.1 ho).1
    have hlt:i<listed.size:=by rw[hsz];exact his
    have hun:listed.getD i false=false:=by simpa [hlt] using h0
    have hni:¬ listed.getD i false=true:=by rw[hun];simp
    have hk:∀ k∈ons o,listed.getD k false=true:=fun k hk=>by
     unfold ons at hk
     obtain⟨e,he,rfl⟩:=List.mem_map.1 hk
     obtain⟨he1,he2⟩:=List.mem_filter.1 he
     exact hall e (by simpa using he1) he2
    obtain⟨s,hs,hst⟩:=S.st i o ho
    have hset:(fun j=>(listed.setIfInBounds i true).getD j false=true)=(fun j=>listed.getD j false=true∨j=i):=by
     funext j
     apply propext
     by_cases hj:j=i
     ·subst hj;simp[hlt]
     ·rw[getD_set_ne false (Ne.symm hj)];simp[hj]
    have next:∀ {v' Mi w'},VR Mi s.v v'→Post c.N0 (stH sts H' i) (stH sts H' (i+1)) (Fi sts i).w (mcut M (stH sts H' i).length) Mi w w'→wpAny P .any ops Q fuel (listed.setIfInBounds i true) (a.put o.dst v') w':=fun {v' Mi w'} hv hp=>by
     have I':=Inv.step S I ho hs hst.hd hst.H hni hk hv hp
     rw[← hset] at I'
     have hiU:i∈U:=(hU i his).2 hun
     refine ih _ (U.erase i) _ _ _ (by simpa using hsz) (hnd.erase i) (fun u hu=>hUs u (List.mem_of_mem_erase hu)) (by rw[List.length_erase_of_mem hiU];omega) (fun j hj=>?_) (Nat.le_trans hlow hp.size) I'
     rw[hnd.mem_erase_iff,hU j hj]
     by_cases hji:j=i
     ·subst hji;simp[hlt]
     ·rw[getD_set_ne false (Ne.symm hji)];simp[hji]
    have hslot:=fun {t} (ht:t∈o.looksAt ops)=>Inv.slot S p1.dom I ho hs hni hk ht
    have hFi:Fi sts i=s.F:=by unfold Fi;rw[hs]
    have hwant:∀ {g},awant ops s.T o=some g→Region.wanted o (yielded ops a.tmps)=g:=fun hg=>wanted_rel (M:=mcut M (stH sts H' i).length) I.asz (fun j wt t hgd hd=>hslot (by
     unfold Oper.looksAt
     rw[hgd]
     simp only[List.mem_append]
     exact .inr (by rw[hd];simp))) hg
    unfold wpOp
    rw[ho]
    simp only[]
    rcases hst.does with ⟨hw1',hsem⟩|⟨hw1',e1,e2,e3⟩
    ·rw[if_pos (hwant hw1')]
     left
     have hpre:=Inv.pre S I ho hni hk hlow
     rw[hFi,hst.H] at hpre
     refine hsem c.N0 _ a w I.asz I.adf (fun t ht=>?_) hpre _ _ (fun v' M' w' hv hp=>next hv (by rw[hFi,hst.H];exact hp))
     rw[← hst.H]
     exact hslot (by unfold Oper.looksAt;exact List.mem_append_left _ ht)
    ·rw[if_neg (by rw[hwant hw1'];simp)]
     have hpre:=Inv.pre S I ho hni hk hlow
     refine next (v':=undef) (Mi:=mcut M (stH sts H' i).length) (by rw[e1];exact .undef) ?_
     rw[hFi,e2,e3,hst.H]
     rw[hst.H] at hpre
     exact Post.still hpre rfl rfl rfl rfl
 have hL0:(fun i=>(Array.replicate ops.size false).getD i false=true)=(fun _=>False):=by
  funext i
  apply propext
  by_cases hi:i<ops.size <;> simp[hi]
 exact key ops.size _ (List.range ops.size) M1 a w1 (by simp) List.nodup_range (fun u hu=>by simpa using hu) (by simp) (fun i hi=>by simp[hi]) p1.low (by rw[hL0];exact Inv.start S p1 ha)

end Go.Proofs.YthhbglkokpablaaGreat.E
/- Code: sequences, choices, blocks, loops, returns; and calls out of bodies. -/
set_option linter.unusedVariables false
set_option linter.unusedSimpArgs false
namespace Go.Proofs.YthhbglkokpablaaGreat.E
open Go Go.RowKit

inductive Out where
 | norm
 | ret
 | exit (id:Nat)

def Out.ex:Out→Exit
 | .norm=>.normal
 | .ret=>.ret
 | .exit id=>.exit id

abbrev WPost:=Out→Env→AH→List Nat→Prop
abbrev WT:=Env→AH→List Nat→WPost→Prop

def WLoop (B:WT):Nat→WT
 | 0,_,_,_,_=>False
 | n+1,T,H,D,Q=>B T H D fun o T' H' D'=>match o with
  | .norm=>WLoop B n T' H' D' Q
  | o=>Q o T' H' D'

def WSeq (B:WT) (Q:WPost):WPost:=fun o T H D=>match o with
 | .norm=>B T H D Q
 | o=>Q o T H D

def WBlk (id:Nat) (Q:WPost):WPost:=fun o T H D=>match o with
 | .exit i=>if i=id then Q .norm T H D else Q (.exit i) T H D
 | o=>Q o T H D

def WCode (P:Program) (sz n0:Nat):Code→WT
 | .skip,T,H,D,Q=>Q .norm T H D
 | .region _ ops false,T,H,D,Q=>WOps P sz n0 ops ops.toList T H D [] fun T' H' D' _=>Q .norm T' H' D'
 | .region _ ops true,T,H,D,Q=>regB ops=true∧WOps P sz n0 ops ops.toList T H D [] fun T' H' D' Fs=>Compat ops Fs∧Q .norm T' H' D'
 | .seq a b,T,H,D,Q=>WCode P sz n0 a T H D (WSeq (fun T H D Q=>WCode P sz n0 b T H D Q) Q)
 | .cond c a b,T,H,D,Q=>match ev T c with
  | some (.bool t)=>(t=true→WCode P sz n0 a T H D Q)∧(t=false→WCode P sz n0 b T H D Q)
  | _=>False
 | .block id c,T,H,D,Q=>WCode P sz n0 c T H D (WBlk id Q)
 | .loop c,T,H,D,Q=>∃ n,WLoop (fun T H D Q=>WCode P sz n0 c T H D Q) n T H D Q
 | .exit id,T,H,D,Q=>Q (.exit id) T H D
 | .ret,T,H,D,Q=>Q .ret T H D
 | _,_,_,_,_=>False

theorem Ext.trans {W1 W2:List Nat} {H H1 H2:AH} (h:Ext W1 H H1) (k:Ext W2 H1 H2):Ext (W1++W2) H H2:=
 ⟨Nat.le_trans h.1 k.1,fun b hb hn=>by
  rw[k.2 b (Nat.lt_of_lt_of_le hb h.1) (fun hh=>hn (List.mem_append_right _ hh)),h.2 b hb (fun hh=>hn (List.mem_append_left _ hh))]⟩

def ExtD (n0:Nat) (H:AH) (D:List Nat) (H':AH) (D':List Nat):Prop:=∃ W,Ext W H H'∧D'=D++W.filter (fun b=>decide (b<n0))
theorem ExtD.refl (n0:Nat) (H:AH) (D:List Nat):ExtD n0 H D H D:=⟨[],Ext.refl _ _,by simp⟩
theorem ExtD.trans {n0:Nat} {H H1 H2:AH} {D D1 D2:List Nat} (h:ExtD n0 H D H1 D1) (k:ExtD n0 H1 D1 H2 D2):ExtD n0 H D H2 D2:=by
 obtain⟨W1,h1,h2⟩:=h
 obtain⟨W2,k1,k2⟩:=k
 exact⟨W1++W2,h1.trans k1,by rw[k2,h2,List.filter_append,List.append_assoc]⟩

theorem Way.ext {P:Program} {sz:Nat} {ops:Array Oper}:∀ {l:List Oper} {T T':Env} {H H':AH} {sts:List St},Way P sz ops l T H sts T' H'→Ext (sts.flatMap fun s=>s.F.w) H H':=by
 intro l T T' H H' sts h
 induction h with
 | nil T H=>exact Ext.refl _ _
 | run hd hw hs he h ih=>simpa using he.trans ih
 | skip hd hw h ih=>simpa using ih

theorem Way.extD {P:Program} {sz:Nat} {ops:Array Oper} {l:List Oper} {T T':Env} {H H':AH} {sts:List St} (h:Way P sz ops l T H sts T' H') (n0:Nat) (D:List Nat):ExtD n0 H D H' (D++dirty n0 sts):=
 ⟨_,h.ext,by unfold dirty;rw[List.filter_flatMap]⟩

/-- What a code comes to, in the world. -/
def SemCode (P:Program) (sz n0:Nat) (c:Code) (T:Env) (H:AH) (D:List Nat) (o:Out) (T':Env) (H':AH) (D':List Nat):Prop:=
 ExtD n0 H D H' D'∧∀ (x:Ctx),x.H0.length=n0→Pre x.N0 x.H0 none x.M0 x.w0→∀ (a:Act) (w:World),StR x sz T H D a w→∀ (Q:Exit→Act→World→Prop),
  (∀ a' w',StR x sz T' H' D' a' w'→Q o.ex a' w')→c.wp P Q a w

/-- From a loop's round on. -/
def LoopFrom (P:Program) (c:Code) (Q:Exit→Act→World→Prop) (a:Act) (w:World):Prop:=
 ∀ (b:Frame) (k:List Item) (cs:List Frame),∃ e a' w',Q e a' w'∧Arrives P (lone (b.at a (.code c::.inLoop c::k)) cs w) b k cs e a' w'

theorem wp_of_from {P:Program} {c:Code} {Q:Exit→Act→World→Prop} {a:Act} {w:World} (h:LoopFrom P c Q a w):(Code.loop c).wp P Q a w:=
 fun b k cs=>let ⟨e,a',w',q,r⟩:=h b k cs;⟨e,a',w',q,.of_steps (.one step_loop) r⟩

theorem from_round {P:Program} {c:Code} {Q:Exit→Act→World→Prop} {a:Act} {w:World} (h:c.wp P (Exit.then (LoopFrom P c Q) Q) a w):LoopFrom P c Q a w:=by
 intro b k cs
 obtain⟨e,a₁,w₁,hq,harr⟩:=h b (.inLoop c::k) cs
 cases e with
 | normal=>
  obtain⟨e₂,a₂,w₂,hq₂,harr₂⟩:=hq b k cs
  exact⟨e₂,a₂,w₂,hq₂,.of_steps (Steps.trans harr (.one step_inLoop)) harr₂⟩
 | exit id=>exact⟨_,a₁,w₁,hq,.pass (x:=.inLoop c) rfl (fun _ _=>.inl (by simp)) harr⟩
 | goto l=>exact⟨_,a₁,w₁,hq,.pass (x:=.inLoop c) rfl (fun _ _=>.inl (by simp)) harr⟩
 | ret=>exact⟨_,a₁,w₁,hq,.pass (x:=.inLoop c) rfl (fun _ _=>.inl (by simp)) harr⟩
 | panic ch=>exact⟨_,a₁,w₁,hq,.pass (x:=.inLoop c) rfl (fun _ _=>.inl (by simp)) harr⟩
 | outgrown=>exact⟨_,a₁,w₁,hq,.pass (x:=.inLoop c) rfl (fun _ _=>.inl (by simp)) harr⟩

section
variable {P:Program} (hm:P.follows .mixedOrders=true) {sz n0:Nat}
include hm

theorem WCode.sem:∀ (c:Code) {T:Env} {H:AH} {D:List Nat} {Q:WPost},WCode P sz n0 c T H D Q→∃ o T' H' D',Q o T' H' D'∧SemCode P sz n0 c T H D o T' H' D':=by
 intro c
 induction c with
 | skip=>intro T H D Q h;exact⟨.norm,T,H,D,h,ExtD.refl _ _ _,fun x _ _ a w hs Qc hq=>wp_skip (hq a w hs)⟩
 | exit id=>intro T H D Q h;exact⟨.exit id,T,H,D,h,ExtD.refl _ _ _,fun x _ _ a w hs Qc hq=>wp_exit (hq a w hs)⟩
 | ret=>intro T H D Q h;exact⟨.ret,T,H,D,h,ExtD.refl _ _ _,fun x _ _ a w hs Qc hq=>wp_ret (hq a w hs)⟩
 | region id ops draw=>
  intro T H D Q h
  cases draw with
  | false=>
   simp only[WCode] at h
   obtain⟨T',H',sts,h1,h2⟩:=WOps.way h
   refine⟨.norm,T',H',_,h2,h1.extD n0 D,fun x hx pc a w hs Qc hq=>wp_region_list (h1.seq pc hs (fun a' w' hs'=>hq a' w' ?_))⟩
   rw[hx] at hs';exact hs'
  | true=>
   simp only[WCode] at h
   obtain⟨hr,h⟩:=h
   obtain⟨T',H',sts,h1,h2,h3⟩:=WOps.way h
   refine⟨.norm,T',H',_,h3,h1.extD n0 D,fun x hx pc a w hs Qc hq=>h1.drawn hm pc hr (by simpa using h2) hs (fun a' w' hs'=>hq a' w' ?_)⟩
   rw[hx] at hs';exact hs'
 | seq a b iha ihb=>
  intro T H D Q h
  simp only[WCode] at h
  obtain⟨o,T1,H1,D1,h1,e1,s1⟩:=iha h
  cases o with
  | norm=>
   obtain⟨o,T2,H2,D2,h2,e2,s2⟩:=ihb h1
   refine⟨o,T2,H2,D2,h2,e1.trans e2,fun x hx pc ac w hs Qc hq=>wp_seq (s1 x hx pc ac w hs _ (fun a' w' hs'=>?_))⟩
   exact s2 x hx pc a' w' hs' Qc hq
  | ret=>exact⟨.ret,T1,H1,D1,h1,e1,fun x hx pc ac w hs Qc hq=>wp_seq (s1 x hx pc ac w hs _ (fun a' w' hs'=>hq a' w' hs'))⟩
  | exit id=>exact⟨.exit id,T1,H1,D1,h1,e1,fun x hx pc ac w hs Qc hq=>wp_seq (s1 x hx pc ac w hs _ (fun a' w' hs'=>hq a' w' hs'))⟩
 | cond c a b iha ihb=>
  intro T H D Q h
  simp only[WCode] at h
  split at h
  case h_2=>exact h.elim
  rename_i t hc
  cases t with
  | true=>
   obtain⟨o,T1,H1,D1,h1,e1,s1⟩:=iha (h.1 rfl)
   refine⟨o,T1,H1,D1,h1,e1,fun x hx pc ac w hs Qc hq=>?_⟩
   obtain⟨M,_,_,ha⟩:=hs
   exact wp_cond_true (ev_rel ha hc).bool_inv (s1 x hx pc ac w ⟨M,‹_›,‹_›,ha⟩ Qc hq)
  | false=>
   obtain⟨o,T1,H1,D1,h1,e1,s1⟩:=ihb (h.2 rfl)
   refine⟨o,T1,H1,D1,h1,e1,fun x hx pc ac w hs Qc hq=>?_⟩
   obtain⟨M,_,_,ha⟩:=hs
   exact wp_cond_false (ev_rel ha hc).bool_inv (s1 x hx pc ac w ⟨M,‹_›,‹_›,ha⟩ Qc hq)
 | block id c ih=>
  intro T H D Q h
  simp only[WCode] at h
  obtain⟨o,T1,H1,D1,h1,e1,s1⟩:=ih h
  cases o with
  | norm=>exact⟨.norm,T1,H1,D1,h1,e1,fun x hx pc ac w hs Qc hq=>wp_block (s1 x hx pc ac w hs _ (fun a' w' hs'=>hq a' w' hs'))⟩
  | ret=>exact⟨.ret,T1,H1,D1,h1,e1,fun x hx pc ac w hs Qc hq=>wp_block (s1 x hx pc ac w hs _ (fun a' w' hs'=>hq a' w' hs'))⟩
  | exit i=>
   simp only[WBlk] at h1
   by_cases hi:i=id
   ·rw[if_pos hi] at h1
    exact⟨.norm,T1,H1,D1,h1,e1,fun x hx pc ac w hs Qc hq=>wp_block (s1 x hx pc ac w hs _ (fun a' w' hs'=>by
     simp only[Out.ex,Exit.inBlock];rw[if_pos hi];exact hq a' w' hs'))⟩
   ·rw[if_neg hi] at h1
    exact⟨.exit i,T1,H1,D1,h1,e1,fun x hx pc ac w hs Qc hq=>wp_block (s1 x hx pc ac w hs _ (fun a' w' hs'=>by
     simp only[Out.ex,Exit.inBlock];rw[if_neg hi];exact hq a' w' hs'))⟩
 | loop c ih=>
  intro T H D Q h
  simp only[WCode] at h
  obtain⟨n,h⟩:=h
  have key:∀ (n:Nat) {T:Env} {H:AH} {D:List Nat},WLoop (fun T H D Q=>WCode P sz n0 c T H D Q) n T H D Q→∃ o T' H' D',Q o T' H' D'∧ExtD n0 H D H' D' ∧
    ∀ (x:Ctx),x.H0.length=n0→Pre x.N0 x.H0 none x.M0 x.w0→∀ (a:Act) (w:World),StR x sz T H D a w→∀ (Qc:Exit→Act→World→Prop),(∀ a' w',StR x sz T' H' D' a' w'→Qc o.ex a' w')→LoopFrom P c Qc a w:=by
   intro n
   induction n with
   | zero=>intro T H D h;exact h.elim
   | succ n ihn=>
    intro T H D h
    simp only[WLoop] at h
    obtain⟨o,T1,H1,D1,h1,e1,s1⟩:=ih h
    cases o with
    | norm=>
     obtain⟨o,T2,H2,D2,h2,e2,s2⟩:=ihn h1
     exact⟨o,T2,H2,D2,h2,e1.trans e2,fun x hx pc ac w hs Qc hq=>from_round (s1 x hx pc ac w hs _ (fun a' w' hs'=>s2 x hx pc a' w' hs' Qc hq))⟩
    | ret=>exact⟨.ret,T1,H1,D1,h1,e1,fun x hx pc ac w hs Qc hq=>from_round (s1 x hx pc ac w hs _ (fun a' w' hs'=>hq a' w' hs'))⟩
    | exit i=>exact⟨.exit i,T1,H1,D1,h1,e1,fun x hx pc ac w hs Qc hq=>from_round (s1 x hx pc ac w hs _ (fun a' w' hs'=>hq a' w' hs'))⟩
  obtain⟨o,T',H',D',h1,e1,s1⟩:=key n h
  exact⟨o,T',H',D',h1,e1,fun x hx pc a w hs Qc hq=>wp_of_from (s1 x hx pc a w hs Qc hq)⟩
 | _=>intro T H D Q h;exact h.elim
end

/-! ### results -/
def ares1 (P:Program) (T:Env) (H:AH):ResultVar→Option Value
 | .tmp t=>some (T t)
 | .cell a t=>(aload P H t (T a)).map (·.1)

def aresL (P:Program) (T:Env) (H:AH):List ResultVar→Option (List Value)
 | []=>some []
 | r::rs=>match ares1 P T H r,aresL P T H rs with
  | some v,some vs=>some (v::vs)
  | _,_=>none

def one1:List Value→Value
 | [v]=>v
 | vs=>.tuple vs.toArray

def resF (tmps:Array Value):ResultVar→Sem Value
 | .tmp t=>pure (tmps.getD t undef)
 | .cell x t=>do loadVar t (← asAddr (tmps.getD x undef))

theorem results_eq (fn:Func) (tmps:Array Value):results fn tmps=(do
  let vs ← fn.results.mapM (resF tmps)
  pure (if h:vs.size=1 then vs[0] else .tuple vs)):=by
 unfold results
 congr 1

theorem ares_run {P:Program} {N0:Nat} {H:AH} {M:Mp} {w:World} (p:Pre N0 H none M w) {sz:Nat} {T:Env} {a:Act} (ha:ActR M sz T a):∀ {rs:List ResultVar} {vs:List Value},aresL P T H rs=some vs →
  ∃ vs',(rs.mapM (resF a.tmps)).run P w=.ok vs' w∧VRs M vs vs'
 | [],vs,h=>by cases h;exact⟨[],rfl,VRs.nil⟩
 | r::rs,vs,h=>by
  simp only[aresL] at h
  split at h
  case h_2=>cases h
  rename_i v us h1 h2
  cases h
  obtain⟨vs',g1,g2⟩:=ares_run p ha h2
  cases r with
  | tmp t=>
   simp only[ares1,Option.some.injEq] at h1;subst h1
   refine⟨a.tmps.getD t undef::vs',?_,VRs.cons (ha.2.2 t) g2⟩
   simp only[List.mapM_cons,resF,Sem.run_bind,Sem.run_pure,Result.andThen_ok]
   rw[g1];rfl
  | cell x t=>
   simp only[ares1] at h1
   cases hl:aload P H t (T x) with
   | none=>rw[hl] at h1;cases h1
   | some r=>
    obtain⟨u,b⟩:=r
    rw[hl] at h1;cases h1
    have hx:=ha.2.2 x
    obtain⟨v',q1,q2⟩:=gives_load p hx hl (trivial:inR none b)
    refine⟨v'::vs',?_,VRs.cons q2 g2⟩
    have hptr:∃ ad,a.tmps.getD x undef=.pointer (some ad):=by
     generalize a.tmps.getD x undef=y at hx
     generalize T x=z at hx hl
     unfold aload at hl
     split at hl
     ·obtain⟨c,o,n,_,e⟩:=hx.ptr_inv;exact⟨_,e⟩
     ·cases hl
    obtain⟨ad,e⟩:=hptr
    rw[e,loadAt_ptr] at q1
    simp only[List.mapM_cons,resF,Sem.run_bind,e,asAddr,Sem.run_pure,Result.andThen_ok,q1]
    rw[g1];rfl

def argEnv (args:List Value):Env:=fun t=>args.getD t undef

/-- A call out of its body. -/

theorem Cal.of {P:Program} (hm:P.follows .mixedOrders=true) {f:FuncId} {fn:Func} {c:Code} {args:List Value} {H:AH} {K:Value→AH→List Nat→Prop}
  (hf:P.funcs[f]?=some fn) (hb:fn.body=some c) (hc:∀ (as:Array Value) (w:World),(callFunc f as).run P w=.ok (.enter f as) w) (hsz:args.length≤fn.ntmps)
  (h:WCode P fn.ntmps H.length c (argEnv args) H [] fun o T' H' D'=>(match o with | .exit _=>False|_=>True)∧match aresL P T' H' fn.results.toList with
   | some vs=>K (one1 vs) H' D'
   | none=>False):Cal P f args H K:=by
 obtain⟨o,T',H',D',⟨ho,hq⟩,he,hs⟩:=WCode.sem hm c h
 split at hq
 case h_2=>exact hq.elim
 rename_i vs hvs
 refine⟨one1 vs,H',D',⟨⟨hc,?_⟩,fun N0 M w args' p hargs=>?_⟩,hq⟩
 ·obtain⟨W,h1,h2⟩:=he
  refine⟨h1.1,fun b hb hn=>h1.2 b hb (fun hw=>hn ?_)⟩
  rw[h2];simp only[List.nil_append]
  exact List.mem_filter.2 ⟨hw,by simpa using hb⟩
 ·have hlen:args'.size=args.length:=by rw[← Array.length_toList];exact hargs.1.symm
  refine calls_of_wp hf hb (hs ⟨N0,H,M,w⟩ rfl p _ w ⟨M,p,Post.still p rfl rfl rfl rfl,by simp[hlen];omega,rfl,fun t=>?_⟩ _ (fun a' w' hs'=>?_))
  ·unfold argEnv
   rw[List.getD_eq_getElem?_getD,Array.getD_eq_getD_getElem?]
   by_cases ht:t<args.length
   ·rw[List.getElem?_eq_getElem ht,Array.getElem?_append_left (by omega)]
    refine hargs.2 t _ _ (List.getElem?_eq_getElem ht) ?_
    rw[Array.getElem?_eq_getElem (by omega)]
    simp
   ·rw[List.getElem?_eq_none (by omega),Array.getElem?_append_right (by omega),Array.getElem?_replicate]
    split <;> exact .undef
  ·obtain⟨M',p',q',ha'⟩:=hs'
   obtain⟨vs',g1,g2⟩:=ares_run p' ha' hvs
   have hres:(results fn a'.tmps).run P w'=.ok (if h:vs'.toArray.size=1 then vs'.toArray[0] else .tuple vs'.toArray) w':=by
    rw[results_eq,Array.mapM_eq_mapM_toList]
    simp only[Sem.run_bind,Sem.run_map,Sem.run_pure]
    rw[g1]
    rfl
   have hrel:VR M' (one1 vs) (if h:vs'.toArray.size=1 then vs'.toArray[0] else .tuple vs'.toArray):=by
    have tup:∀ {l l':List Value},VRs M' l l'→VR M' (.tuple l.toArray) (.tuple l'.toArray):=fun {l l'} r=>by
     refine .tup (by simpa using r.1) (fun i h1 h2=>?_)
     simp at h1 h2
     have:=r.2 i l[i] l'[i] (List.getElem?_eq_getElem h1) (List.getElem?_eq_getElem h2)
     simpa using this
    match vs,vs',g2 with
    | [],[],_=>simp[one1];exact .tup rfl (fun i h=>by simp at h)
    | [v],[v'],g=>simpa [one1] using g.2 0 v v' rfl rfl
    | v::u::r,v'::u'::r',g=>simpa [one1] using tup g
    | [],_::_,g=>exact absurd g.1 (by simp)
    | [_],[],g=>exact absurd g.1 (by simp)
    | [_],_::_::_,g=>exact absurd g.1 (by simp)
    | _::_::_,[],g=>exact absurd g.1 (by simp)
    | _::_::_,[_],g=>exact absurd g.1 (by simp)
   have post:bodyPost P fn (fun e w'=>∃ v' M',e=.returned v'∧VR M' (one1 vs) v'∧Post N0 H H' D' M M' w w') .normal a' w':=⟨ha'.2.1,_,hres,_,M',rfl,hrel,q'⟩
   cases o with
   | norm=>exact post
   | ret=>exact post
   | exit id=>exact ho.elim

end Go.Proofs.YthhbglkokpablaaGreat.E
