/- More rewriting: appends behind a row that is known, calls that say what they leave. -/
import Derived.Test.YtockblbbcikkmaaEQ
set_option linter.unusedVariables false
set_option linter.unusedSimpArgs false
namespace Go.Proofs.Ytockblbbcikkmaa.E
open Go Go.RowKit
def apz (H : AH) (s by_ len b g n : Nat) (cs : List Value) (bs : List Nat) : Option Blk → Option (Value × AH × List Nat × List Nat)
  | some k => if g = k.gen ∧ k.rw = true ∧ len * s = k.cells.length then
      if n = 0 then some (sl b 0 g len s, H, [], b :: bs) else
      if (len + n) * by_ ≤ 70368744177664 ∧ len + n ≤ 70368744177664 then some (sl b 0 (g + 1) (len + n) s, H.set b ⟨k.cells ++ cs, g + 1, true⟩, [b], b :: bs) else none
      else none
  | none => none
@[go_sem] theorem apy_sl {H : AH} {s by_ n b g len : Nat} {cs : List Value} {bs : List Nat} : apy H (.slice (some ⟨b, 0, some g⟩) len s) s by_ (some (cs, n, bs)) = apz H s by_ len b g n cs bs H[b]? := by
  simp only [apy, true_and]
  cases H[b]? <;> rfl
@[go_sem] theorem apz_some {H : AH} {s by_ n b g len : Nat} {cs cells : List Value} {bs : List Nat} (hl : len * s = cells.length) (h0 : (n = 0) = False) (h1 : (len + n) * by_ - 70368744177664 = 0) (h2 : len + n - 70368744177664 = 0) :
    apz H s by_ len b g n cs bs (some ⟨cells, g, true⟩) = some (sl b 0 (g + 1) (len + n) s, H.set b ⟨cells ++ cs, g + 1, true⟩, [b], b :: bs) := by
  have h0 : ¬ n = 0 := fun e => by rw [h0] at e; exact e
  have h3 : (len + n) * by_ ≤ 70368744177664 ∧ len + n ≤ 70368744177664 := by omega
  simp [apz, hl, h0, h3]
@[go_sem] theorem apz_zero {H : AH} {s by_ b g len : Nat} {cs cells : List Value} {bs : List Nat} (hl : len * s = cells.length) : apz H s by_ len b g 0 cs bs (some ⟨cells, g, true⟩) = some (sl b 0 g len s, H, [], b :: bs) := by
  simp [apz, hl]
theorem Cal.x {P : Program} {f : FuncId} {args : List Value} {H : AH} {Q0 : Value → AH → List Nat → Prop} (h : Cal P f args H Q0) {Q : KX} (q : ∀ v H' W, Q0 v H' W → Q.go v H' W) : XCal P f args H := Cal.mono h q
/-- A cut: what holds behind the first part. -/
theorem wcode_cut {P : Program} {sz n0 : Nat} {T : Env} {H : AH} {D : List Nat} {Q : KC} {a b : Code} (I : Env → AH → List Nat → Prop)
    (ha : @XCode P sz n0 a T H D ⟨WSeq (fun T H D _ => I T H D) Q.go⟩) (hb : ∀ T H D, I T H D → XCode P sz n0 b T H D) : XCode P sz n0 (.seq a b) T H D := by
  simp only [XCode, WCode] at ha ⊢
  refine WCode.mono ha fun o T H D k => ?_
  cases o with
  | norm => exact hb T H D k
  | ret => exact k
  | exit i => exact k
/-- A call whose result leads to one new block. -/
theorem flat_of {P : Program} {f : FuncId} {args : List Value} {H : AH} {v2 : Value} {cells : List Value}
    (h : @XCal P f args H ⟨fun v H1 W => W = [] ∧ ∃ b g, H.length ≤ b ∧ H1[b]? = some ⟨cells, g, true⟩ ∧ renR H.length [(b, g)] v = some v2 ∧ renL H.length [(b, g)] cells = some cells⟩) : SemCall P f args H v2 (H ++ [⟨cells, 0, true⟩]) [] := Cal.flat h
@[go_sem] theorem xhd (T : Env) (d : Nat) (v : Value) : upd T d v d = v := upd_hit T d v
end Go.Proofs.Ytockblbbcikkmaa.E
