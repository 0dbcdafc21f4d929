/- Operations whose order is drawn: what the world comes to. -/
import Derived.Test.YthoclopeajkcpaaEE
set_option linter.unusedVariables false
set_option linter.unusedSimpArgs false
namespace Go.Proofs.Ythoclopeajkcpaa.E
open Go Go.RowKit

theorem StR.still {c : Ctx} (pc : Pre c.N0 c.H0 none c.M0 c.w0) {sz : Nat} {T : Env} {H : AH} {D : List Nat} {a : Act} {w w' : World} (h : StR c sz T H D a w) (hh : w'.heap = w.heap) (ho : w'.os = w.os) (ht : w'.tape = w.tape) (hu : w'.output = w.output) : StR c sz T H D a w' := by
  obtain ⟨M, p, q, ha⟩ := h
  have st := Post.still p hh ho ht hu
  have := q.trans st pc.hp pc.dom p
  simp only [List.filter_nil, List.append_nil] at this
  exact ⟨M, Post.all p st, this, ha⟩

theorem Setup.of_way {P : Program} {sz : Nat} {ops : Array Oper} {T T' : Env} {H H' : AH} {sts : List St} (h : Way P sz ops ops.toList T H sts T' H') (hr : regB ops = true) (hc : Compat ops (sts.map (·.F))) : Setup P sz ops T H sts T' H' := by
  obtain ⟨a1, a2, a3, a4, a5⟩ := h.at
  refine ⟨by simpa using a1, a2, fun i o ho => a3 i o (by simpa using ho), fun i s hs t => ?_, fun t => ?_, hr, fun i j hij hj ho => ?_⟩
  · rcases a4 i s hs t with ⟨j, o, s', g1, g2, g3⟩ | ⟨g1, g2⟩
    · exact .inl ⟨j, o, s', g1, by simpa using g2, g3⟩
    · exact .inr ⟨fun j o hj ho => g1 j o hj (by simpa using ho), g2⟩
  · rcases a5 t with ⟨j, o, s', g2, g3⟩ | ⟨g1, g2⟩
    · exact .inl ⟨j, o, s', by simpa using g2, g3⟩
    · exact .inr ⟨fun j o ho => g1 j o (by simpa using ho), g2⟩
  · have := hc i j hij hj ho
    rwa [Fi_map, Fi_map] at this

section
variable {P : Program} {sz N0 : Nat} {ops : Array Oper} {T0 : Env} {H0 : AH} {sts : List St} {T' : Env} {H' : AH} (S : Setup P sz ops T0 H0 sts T' H') {M1 : Mp} {w1 : World} (p1 : Pre N0 H0 none M1 w1)
include S p1

/-- Where nothing is done yet. -/
theorem Inv.start {a : Act} (ha : ActR M1 sz T0 a) : Inv P sz N0 ops T0 H0 sts H' M1 w1 (fun _ => False) M1 a w1 where
  asz := ha.1
  adf := ha.2.1
  ext := MLe.refl _
  size := Nat.le_refl _
  os := rfl
  tape := rfl
  output := rfl
  frame := fun _ _ _ => rfl
  keep := fun _ _ _ _ => rfl
  absent := fun _ _ h => h
  fresh := fun h => .inr ⟨_, h⟩
  wown := fun _ h => h.elim
  dom := fun h => .inl (p1.dom h)
  hp := p1.hp
  dst := fun _ _ _ _ h => h.elim
  old := fun t _ => ha.2.2 t
  cont := fun j b hj h1 h2 k hk hx => by
    have hb : b < H0.length := by obtain ⟨g, x, h⟩ := hx; exact p1.dom h
    have h0 : b < (stH sts H' 0).length := by rw [S.h0]; exact hb
    have := S.same (i := 0) (j := j) (by omega) hj h0 (fun k' _ hk' hw => h1 k' hk' (.inl hw))
    rw [this, S.h0] at hk
    have hm := S.mono (Nat.zero_le j) hj
    rw [S.h0] at hm
    refine (p1.cont trivial hk hx).mono (fun b' g x h => by rw [mcut_lt (Nat.lt_of_lt_of_le (p1.dom h) hm)]; exact h) (fun g hg => ?_)
    unfold mcut
    split
    · exact hg
    · rfl
  pres := fun _ h => h.elim
  closed := fun _ _ _ h => h.elim
  lt := fun _ h => h.elim

/-- Where all is done. -/
theorem Inv.done {L : Nat → Prop} (hL : ∀ i, i < ops.size → L i) {M : Mp} {a : Act} {w : World} (I : Inv P sz N0 ops T0 H0 sts H' M1 w1 L M a w) :
    Post N0 H0 H' ((sts.flatMap fun s => s.F.w).filter fun b => decide (b < H0.length)) M1 M w1 w ∧ ActR M sz T' a := by
  have he := S.end_
  have hm := S.mono (Nat.zero_le ops.size) (Nat.le_refl _)
  rw [S.h0, he] at hm
  have inW : ∀ b, b < H0.length → b ∉ ((sts.flatMap fun s => s.F.w).filter fun b => decide (b < H0.length)) → ∀ i, b ∉ (Fi sts i).w := fun b hb hn i hw => by
    unfold Fi at hw
    cases hs : sts[i]? with
    | none => rw [hs] at hw; cases hw
    | some s =>
      rw [hs] at hw
      exact hn (List.mem_filter.2 ⟨List.mem_flatMap.2 ⟨s, List.mem_of_getElem? hs, hw⟩, by simpa using hb⟩)
  have ofW : ∀ b, b ∈ ((sts.flatMap fun s => s.F.w).filter fun b => decide (b < H0.length)) → b < H0.length ∧ ∃ i, i < ops.size ∧ b ∈ (Fi sts i).w := fun b hb => by
    obtain ⟨h1, h2⟩ := List.mem_filter.1 hb
    obtain ⟨s, hs, hw⟩ := List.mem_flatMap.1 h1
    obtain ⟨i, hi, e⟩ := List.getElem_of_mem hs
    refine ⟨by simpa using h2, i, by rw [← S.len]; exact hi, ?_⟩
    unfold Fi
    rw [List.getElem?_eq_getElem hi, e]; exact hw
  refine ⟨⟨hm, fun b hb hn => ?_, I.ext, fun b g hb hn => I.keep b g hb (fun i _ => inW b hb hn i), fun {b g x} h => ?_, I.absent, I.fresh, fun c hc hW => I.frame c hc (fun i _ b hb g o n h => ?_), fun b hb => ?_, I.hp, fun {b k} hb hk hx => ?_, I.size, I.os, I.tape, I.output⟩, ⟨I.asz, I.adf, fun t => ?_⟩⟩
  · have := S.same (i := 0) (j := ops.size) (by omega) (Nat.le_refl _) (by rw [S.h0]; exact hb) (fun k _ _ => inW b hb hn k)
    rw [he, S.h0] at this; exact this
  · rcases I.dom h with h | ⟨i, _, hi, h1, h2⟩
    · omega
    · have := S.mono (i := i + 1) (j := ops.size) (by omega) (Nat.le_refl _)
      rw [he] at this; omega
  · exact hW b (Classical.byContradiction fun hn => inW b (p1.dom h) hn i hb) g o n h
  · obtain ⟨hb', i, hi, hw⟩ := ofW b hb
    exact I.wown i (hL i hi) b hw hb'
  · have hc := I.cont ops.size b (Nat.le_refl _) (fun i hi _ => hL i hi) (fun i h1 h2 => by omega) k (by rw [he]; exact hk) hx
    rw [he] at hc
    have hlt := (List.getElem?_eq_some_iff.1 hk).1
    exact hc.mono mcut_le (fun g hg => by rw [mcut_lt hlt] at hg; exact hg)
  · rcases S.te t with ⟨j, o, s, h1, h2, h3, h4⟩ | ⟨h1, h2⟩
    · rw [h4]
      exact (I.dst j o s t (hL j (Array.getElem?_eq_some_iff.1 h1).1) h1 h2 h3).mono mcut_le
    · rw [h2]
      exact (I.old t (fun i o _ ho => h1 i o ho)).mono I.ext
end

/-- A region whose order is drawn comes to what the text's order comes to. -/
theorem Way.drawn {P : Program} (hm : P.follows .mixedOrders = true) {sz : Nat} {ops : Array Oper} {c : Ctx} (pc : Pre c.N0 c.H0 none c.M0 c.w0) {Q : Exit → Act → World → Prop} {id : Nat} {T T' : Env} {H H' : AH} {sts : List St}
    (hw : Way P sz ops ops.toList T H sts T' H') (hr : regB ops = true) (hc : Compat ops (sts.map (·.F))) {D : List Nat} {a : Act} {w : World} (h : StR c sz T H D a w)
    (hq : ∀ a' w', StR c sz T' H' (D ++ dirty c.H0.length sts) a' w' → Q .normal a' w') : (Code.region id ops true).wp P Q a w := by
  have S := Setup.of_way hw hr hc
  have hr0 := hr
  have h1 := StR.still pc h (w' := { w with drawn := w.drawn + 1 }) rfl rfl rfl rfl
  obtain ⟨M1, p1, q1, ha⟩ := h1
  refine wp_region_any hm ?_
  generalize hw1 : ({ w with drawn := w.drawn + 1 } : World) = w1 at *
  have final : ∀ {L : Nat → Prop} (hL : ∀ i, i < ops.size → L i) {M : Mp} {a : Act} {w : World}, Inv P sz c.N0 ops T H sts H' M1 w1 L M a w → Q .normal a w := fun {L} hL {M a w} I => by
    obtain ⟨g1, g2⟩ := Inv.done S p1 hL I
    have := q1.trans g1 pc.hp pc.dom p1
    refine hq a w ⟨M, Post.all p1 g1, ?_, g2⟩
    have e : ((sts.flatMap fun s => s.F.w).filter fun b => decide (b < H.length)).filter (fun b => decide (b < c.H0.length)) = dirty c.H0.length sts := by
      unfold dirty
      rw [List.filter_filter, List.filter_flatMap]
      congr 1
      funext s
      apply List.filter_congr
      intro b _
      have := q1.le
      by_cases hb : b < c.H0.length
      · simp [hb]; omega
      · simp [hb]
    rwa [e] at this
  have key : ∀ (fuel : Nat) (listed : Array Bool) (U : List Nat) (M : Mp) (a : Act) (w : World), listed.size = ops.size → U.Nodup → (∀ u ∈ U, u < ops.size) → U.length = fuel → (∀ i, i < ops.size → (i ∈ U ↔ listed.getD i false = false)) →
      c.N0 ≤ w.heap.size → Inv P sz c.N0 ops T H sts H' M1 w1 (fun i => listed.getD i false = true) M a w → wpAny P .any ops Q fuel listed a w := by
    intro fuel
    induction fuel with
    | zero =>
      intro listed U M a w hsz hnd hUs hlen hU hlow I
      have hU0 : U = [] := List.eq_nil_of_length_eq_zero hlen
      subst hU0
      have hL : ∀ i, i < ops.size → listed.getD i false = true := fun i hi => by
        have := hU i hi
        simp at this
        simpa using this
      refine ⟨?_, final hL I⟩
      apply List.eq_nil_iff_forall_not_mem.2
      intro i hi
      obtain ⟨h0, o, ho, _⟩ := mem_ready.1 hi
      have := hL i (Array.getElem?_eq_some_iff.1 ho).1
      have hlt : i < listed.size := by rw [hsz]; exact (Array.getElem?_eq_some_iff.1 ho).1
      simp [hlt] at h0 this
      rw [h0] at this; cases this
    | succ fuel ih =>
      intro listed U M a w hsz hnd hUs hlen hU hlow I
      refine ⟨fun hr => ?_, fun i hi => ?_⟩
      · -- the first one that is not done could be done
        exfalso
        have hne : U ≠ [] := fun e => by rw [e] at hlen; simp at hlen
        obtain ⟨u, hu⟩ := List.exists_mem_of_ne_nil U hne
        have all : ∀ u, u < ops.size → listed.getD u false = true := by
          intro u
          induction u using Nat.strongRecOn with
          | _ u ihu =>
            intro hus
            cases hl : listed.getD u false with
            | true => rfl
            | false =>
              exfalso
              have hou : ops[u]? = some ops[u] := Array.getElem?_eq_getElem hus
              have hlt : u < listed.size := by rw [hsz]; exact hus
              have : u ∈ Region.ready .any ops listed := mem_ready.2 ⟨by simpa [hlt] using hl, ops[u], hou, fun e he hb => by
                have hk : e.on ∈ ons ops[u] := List.mem_map.2 ⟨e, List.mem_filter.2 ⟨by simpa using he, hb⟩, rfl⟩
                have hlt := regB_ons hr0 hou _ hk
                exact ihu e.on hlt (by omega)⟩
              rw [hr] at this; cases this
        have := (hU u (hUs u hu)).1 hu
        rw [all u (hUs u hu)] at this; cases this
      · obtain ⟨h0, o, ho, hall⟩ := mem_ready.1 hi
        have his : i < ops.size := (Array.getElem?_eq_some_iff.1 ho).1
        have hlt : i < listed.size := by rw [hsz]; exact his
        have hun : listed.getD i false = false := by simpa [hlt] using h0
        have hni : ¬ listed.getD i false = true := by rw [hun]; simp
        have hk : ∀ k ∈ ons o, listed.getD k false = true := fun k hk => by
          unfold ons at hk
          obtain ⟨e, he, rfl⟩ := List.mem_map.1 hk
          obtain ⟨he1, he2⟩ := List.mem_filter.1 he
          exact hall e (by simpa using he1) he2
        obtain ⟨s, hs, hst⟩ := S.st i o ho
        have hset : (fun j => (listed.setIfInBounds i true).getD j false = true) = (fun j => listed.getD j false = true ∨ j = i) := by
          funext j
          apply propext
          by_cases hj : j = i
          · subst hj; simp [hlt]
          · rw [getD_set_ne false (Ne.symm hj)]; simp [hj]
        have next : ∀ {v' Mi w'}, VR Mi s.v v' → Post c.N0 (stH sts H' i) (stH sts H' (i + 1)) (Fi sts i).w (mcut M (stH sts H' i).length) Mi w w' → wpAny P .any ops Q fuel (listed.setIfInBounds i true) (a.put o.dst v') w' := fun {v' Mi w'} hv hp => by
          have I' := Inv.step S I ho hs hst.hd hst.H hni hk hv hp
          rw [← hset] at I'
          have hiU : i ∈ U := (hU i his).2 hun
          refine ih _ (U.erase i) _ _ _ (by simpa using hsz) (hnd.erase i) (fun u hu => hUs u (List.mem_of_mem_erase hu)) (by rw [List.length_erase_of_mem hiU]; omega) (fun j hj => ?_) (Nat.le_trans hlow hp.size) I'
          rw [hnd.mem_erase_iff, hU j hj]
          by_cases hji : j = i
          · subst hji; simp [hlt]
          · rw [getD_set_ne false (Ne.symm hji)]; simp [hji]
        have hslot := fun {t} (ht : t ∈ o.looksAt ops) => Inv.slot S p1.dom I ho hs hni hk ht
        have hFi : Fi sts i = s.F := by unfold Fi; rw [hs]
        have hwant : ∀ {g}, awant ops s.T o = some g → Region.wanted o (yielded ops a.tmps) = g := fun hg => wanted_rel (M := mcut M (stH sts H' i).length) I.asz (fun j wt t hgd hd => hslot (by
          unfold Oper.looksAt
          rw [hgd]
          simp only [List.mem_append]
          exact .inr (by rw [hd]; simp))) hg
        unfold wpOp
        rw [ho]
        simp only []
        rcases hst.does with ⟨hw1', hsem⟩ | ⟨hw1', e1, e2, e3⟩
        · rw [if_pos (hwant hw1')]
          left
          have hpre := Inv.pre S I ho hni hk hlow
          rw [hFi, hst.H] at hpre
          refine hsem c.N0 _ a w I.asz I.adf (fun t ht => ?_) hpre _ _ (fun v' M' w' hv hp => next hv (by rw [hFi, hst.H]; exact hp))
          rw [← hst.H]
          exact hslot (by unfold Oper.looksAt; exact List.mem_append_left _ ht)
        · rw [if_neg (by rw [hwant hw1']; simp)]
          have hpre := Inv.pre S I ho hni hk hlow
          refine next (v' := undef) (Mi := mcut M (stH sts H' i).length) (by rw [e1]; exact .undef) ?_
          rw [hFi, e2, e3, hst.H]
          rw [hst.H] at hpre
          exact Post.still hpre rfl rfl rfl rfl
  have hL0 : (fun i => (Array.replicate ops.size false).getD i false = true) = (fun _ => False) := by
    funext i
    apply propext
    by_cases hi : i < ops.size <;> simp [hi]
  exact key ops.size _ (List.range ops.size) M1 a w1 (by simp) List.nodup_range (fun u hu => by simpa using hu) (by simp) (fun i hi => by simp [hi]) p1.low (by rw [hL0]; exact Inv.start S p1 ha)

end Go.Proofs.Ythoclopeajkcpaa.E
