/-
  From an answer of the executor to a call of the program.
-/
import Derived.Test.YthlcbacmbcmgfaaAbs17
namespace Go.Abs
variable {P : Program} {T : Tab}

theorem wf_i64 {a : Int} (h : (Lit.int .i64 a).wf = true) : -9223372036854775808 ≤ a ∧ a < 9223372036854775808 := by
  simp only [Lit.wf, Bool.and_eq_true, decide_eq_true_eq] at h
  have h1 : IntKind.i64.min = -9223372036854775808 := by decide
  have h2 : IntKind.i64.max = 9223372036854775807 := by decide
  omega
theorem wf_u32 {a : Int} (h : (Lit.int .u32 a).wf = true) : 0 ≤ a ∧ a < 4294967296 := by
  simp only [Lit.wf, Bool.and_eq_true, decide_eq_true_eq] at h
  have h1 : IntKind.u32.min = 0 := by decide
  have h2 : IntKind.u32.max = 4294967295 := by decide
  omega
theorem wf_u8 {a : Int} (h : (Lit.int .u8 a).wf = true) : 0 ≤ a ∧ a < 256 := by
  simp only [Lit.wf, Bool.and_eq_true, decide_eq_true_eq] at h
  have h1 : IntKind.u8.min = 0 := by decide
  have h2 : IntKind.u8.max = 255 := by decide
  omega

/-- A call from a memory whose blocks are all kept. -/
theorem calls_of_callQ (hF : Facts P T) {f : FuncId} {args args' : Array Value} {m : Mem} (h : CallQ (envOf P T) f args m fun v _ => v = .bool true) {ρ : Inj} {w : World}
    (hs : GSim (CG P T) ρ m.get w) (hd : ∀ i e, ρ i = some e → i < m.size) (hro : ∀ i c, m.get i = some c → c.writable = false) (ha : ARel ρ args args') :
    Calls P f args' w fun e w' => e = .returned (.bool true) ∧ Kept w w' := by
  obtain ⟨n, t, m', hr, hv⟩ := h
  have hs' : Sim (CG P T) m'.size ρ m w := ⟨hs, fun i e h => .inl (hd i e h)⟩
  refine (calls_of_run (o := ⟨.normal, t, m'⟩) hF hr hs' ha).mono fun e w' ⟨ρ', v', hp, he, hv'⟩ => ⟨?_, Kept.of_post hp hro⟩
  simp only [hv] at hv'
  cases hv'
  exact he

/-- The call answers true. -/
def Tru (E : Env) (g : FuncId) (args : List Value) : Prop := ∀ m, CallQ E g args.toArray m fun w _ => w = .bool true

theorem Tru.of {E : Env} {g : FuncId} {n : Nat} {rs : List ResultVar} {c : MC} (hf : FnIs E g n rs c) {args : List Value} (hs : args.length ≤ n)
    (h : ∀ m, wpM E g n none c (retK (ResK E rs fun w _ => w = .bool true)) (initU 0 args undefF) m) : Tru E g args := fun m => .enter hf hs (h m)

theorem calls_of_ans (hF : Facts P T) {f : FuncId} {args : List Value} (h : Tru (envOf P T) f args) (ha : ∀ x ∈ args, constOk x = true) (w : World) :
    Calls P f args.toArray w fun e w' => e = .returned (.bool true) ∧ Kept w w' := by
  refine calls_of_callQ hF (m := ⟨[]⟩) (h ⟨[]⟩) (ρ := fun _ => none) ⟨fun i b h => by simp [Mem.get] at h, fun i j bi bj ei ej h => by simp [Mem.get] at h⟩ (fun _ _ h => by cases h) (fun i c h => by simp [Mem.get] at h) ?_
  show LRel _ args.toArray.toList args.toArray.toList
  exact LRel.refl_of fun x hx => .const (ha x (by simpa using hx))

end Go.Abs
