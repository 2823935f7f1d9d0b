/- Tied. -/
import Derived.Test.YtdjojfibjbjpdaaGreatDoorM2
import Derived.Test.YtdjojfibjbjpdaaGreatDoorRows
import Derived.Test.YtdjojfibjbjpdaaGreatDoorCards
import Derived.Test.YtdjojfibjbjpdaaGreatDoorTie
import Derived.Test.YtdjojfibjbjpdaaGreatDoorM1
import Derived.LaidMore
import Derived.HandedShaped
import Derived.Stop.LaidErr
import Derived.MakeChecks
import Derived.Stop.Joined
import Derived.ShutString
import Derived.Lib.SmallJoins
namespace Go.Proofs.YtdjojfibjbjpdaaGreatDoor
open Go.ChangeShapes Go.WideShapes Go.RowKit

theorem own : ownKnob Tryz.prog.godebug = none := by kernel_rfl
theorem laidOut : laidOutB Tryz.prog = true := by kernel_rfl

theorem returnsInHanded_both {H : Type} {enc : TypeId × Value → H} {a : Assume} {C : Checked} {os : Os} {f : FuncId} {fn : Func} {s : ChangeSpec} {conds : List PathCond} {apart fresh handsOn again : Bool} {X : World → Array Value → Prop}
    (hX : ∀ (w w' : World) (args : Array Value), w.heap = w'.heap → X w args → X w' args) (own : ownKnob C.prog.godebug = none) (started : os.Started) (noInit : C.prog.inits.idxOf? f = none) (hfn : C.prog.funcs[f]? = some fn)
    (witness : ∃ (w : World) (tape : Tape) (i : Input), w.os = os ∧ (w.forCall tape i).Shaped C.prog ∧ i.vars = [] ∧ Input.okWide C.prog (w.forCall tape i) .any w.heap.size f i ∧
      ((s.pre enc C.prog fn conds apart (w.forCall tape i).memory i.args ∧ X (w.forCall tape i).memory i.args) ∧ sizedMet enc C.prog fn (OpenSpec.ofChange s) apart (w.forCall tape i).memory i.args) ∧ a.holds C.prog (lone (Frame.enter C.prog f i.args .normal) [] (w.forCall tape i)))
    (contract : ∀ (W : World) (base : Nat) (args : Array Value) (ds gs : List (DataW H)) (before : List MemPlace),
      (∀ (j : Nat) t v, fn.params[j]? = some t → args[j]? = some v → Value.okWide C.prog W .any base t v) → DataW.Whole enc C.prog fn.params.toList s.vars apart W args.toList ds gs before →
      (DataW.weightsEach C.prog (fn.params.toList ++ s.plain.varTypes C.prog) (ds ++ gs)).all (· ≤ reachBytes) = true → X W args → W.ShapedOpen C.prog →
      Calls C.prog f args W fun e W' => ∃ v, e = .returned v ∧ s.post enc C.prog fn apart fresh handsOn again W args v W') :
    ReturnsInHanded a C os f .any (fun w args => (s.pre enc C.prog fn conds apart w args ∧ X w args) ∧ sizedMet enc C.prog fn (OpenSpec.ofChange s) apart w args) (s.post enc C.prog fn apart fresh handsOn again) := by
  refine returnsInHanded_of_calls own started noInit witness ?_
  intro w tape i _ hsh _ hok hpre _
  obtain ⟨_, _, _, fn', hfn', _, _, _, _, hval⟩ := hok
  obtain rfl : fn' = fn := Option.some.inj (hfn'.symm.trans hfn)
  obtain ⟨⟨⟨ds, gs, before, hw, _⟩, hx⟩, hz⟩ := hpre
  refine (contract (w.forCall tape i) w.heap.size i.args ds gs before hval (DataW.Whole.of_heap (w' := w.forCall tape i) (by rfl) hw) (hz.weights hw) (hX _ _ _ (by rfl) hx) hsh).mono fun e W' ⟨v, he, hp⟩ => ?_
  subst he
  exact ChangeSpec.post_blind hp

/-- The errors' variables hold errors. -/
def ErrAt (W : World) (g : Nat) : Prop := ∃ v, W.cell? ⟨g, 0, none⟩ = some v ∧ (v = .nilIface ∨ ∃ te pe, v = .iface te pe)
def Errs (W : World) : Prop := ErrAt W 4 ∧ ErrAt W 5
theorem ErrAt.later {W w : World} {g : Nat} (h : ErrAt W g) (hw : ∀ (b : Nat) (o : Obj), W.heap[b]? = some o → w.heap[b]? = some o) : ErrAt w g := by
  obtain ⟨v, hc, hv⟩ := h
  refine ⟨v, ?_, hv⟩
  cases ho : W.heap[g]? with
  | none => simp [World.cell?, ho] at hc
  | some o =>
    rw [← hc]
    exact World.cell?_of_block (w := W) (a := ⟨g, 0, none⟩) ((hw g o ho).trans ho.symm)
/-- The library's variables, from a call's start on. -/
theorem start_fix {W : World} (hsh : W.ShapedOpen Tryz.prog) (htab : Lib.TabIs Tryz.prog W "internal/strconv.uint64pow10" .u64 Lib.pow10Tab) (herr : Errs W) : Fix (Gh.start W) W := by
  refine ⟨fun b => W.heap[b]?, fun b o h => ⟨(Array.getElem?_eq_some_iff.1 h).1, h, rfl⟩, fun w hw => ⟨?_, ?_, herr.1.later hw, herr.2.later hw⟩⟩
  · have hsz : W.heap.size ≤ w.heap.size := by
      rcases Nat.eq_zero_or_pos W.heap.size with h | h
      · omega
      · have hlt : W.heap.size - 1 < W.heap.size := by omega
        have := hw (W.heap.size - 1) _ (Array.getElem?_eq_getElem hlt)
        have := (Array.getElem?_eq_some_iff.1 this).1
        omega
    have hb : Below W.heap.size W { W with heap := w.heap } := ⟨rfl, rfl, rfl, hsz, fun k hk => by
      rw [Array.getElem?_eq_getElem hk]
      exact hw k _ (Array.getElem?_eq_getElem hk)⟩
    have h2 : World.ShapedOpen Tryz.prog ({ W with heap := w.heap } : World) := hsh.keptBut (hb.frame _) (fun p h => h.elim) (may := fun _ => False)
    have hh : ({ W with heap := w.heap } : World).heap = w.heap := rfl
    exact World.ShapedOpen.of_heap hh h2
  · unfold Lib.TabIs World.var? at htab ⊢
    obtain ⟨g, hg, h⟩ := Option.bind_eq_some_iff.1 htab
    rw [hg, Option.bind_some]
    cases ho : W.heap[g]? with
    | none => simp [ho] at h
    | some o => rw [ho] at h; rw [hw g o ho]; exact h
theorem es_star : "*" ++ "errors.errorString" = "*errors.errorString" := by decide
theorem name_one {u : TypeId} (h : Tryz.prog.typeName? 3 u = some "*errors.errorString") : u = 154 :=
  typeName_ptr_named (nm := "errors.errorString") (by rw [es_star]; kernel_rfl) (by kernel_rfl) (by decide) u (by rw [es_star]; exact h)
/-- strconv's table and errors, as the row's condition has them. -/
theorem tab_of {W : World} (h : laidMetH Tryz.prog Rows.confKeepsRow.laid W) : Lib.TabIs Tryz.prog W "internal/strconv.uint64pow10" .u64 Lib.pow10Tab := by
  rw [MakeChecks.laidMetH_plain _ _ _ (by kernel_rfl)] at h
  have h1 : laidMet Tryz.prog (Rows.confKeepsRow.laid.drop 2) W := laidMet.tail (laidMet.tail h)
  have h2 : laidMet Tryz.prog (("internal/strconv.uint64pow10", (Rows.laid_internal_strconv_uint64pow10 : DataW Unit)) :: Rows.confKeepsRow.laid.drop 3) W := h1
  have e : (Rows.laid_internal_strconv_uint64pow10 : DataW Unit) = Lib.tabData .u64 Lib.pow10Tab := by kernel_rfl
  rw [e] at h2
  exact Lib.tabIs_of_head (g := 1) (by kernel_rfl) (by kernel_rfl) (t := 133) Tryz.underlying133 Tryz.underlying119 (by kernel_rfl) (by kernel_rfl) h2
theorem errs_of {W : World} (h : laidMetH Tryz.prog Rows.confKeepsRow.laid W) : Errs W := by
  rw [MakeChecks.laidMetH_plain _ _ _ (by kernel_rfl)] at h
  have h4 : laidMet Tryz.prog (Rows.confKeepsRow.laid.drop 4) W := laidMet.tail (laidMet.tail (laidMet.tail (laidMet.tail h)))
  have h5 : laidMet Tryz.prog (Rows.confKeepsRow.laid.drop 5) W := laidMet.tail h4
  constructor
  · obtain ⟨a, s, hv, _⟩ := laid_sentinel (n := "strconv.ErrSyntax") (g := 4) (ti := 79) (tp := 154) (te := 156) (ts := 9) h5 (by kernel_rfl) (by kernel_rfl) Tryz.underlying79 (fun u hu => name_one hu) Tryz.underlying154 Tryz.underlying156 rfl rfl Tryz.underlying9 (by kernel_rfl) (by kernel_rfl)
    have := World.var?_cell (by kernel_rfl : Tryz.prog.globalNamed "strconv.ErrSyntax" = some 4) hv 0
    exact ⟨_, by simpa using this, .inr ⟨_, _, rfl⟩⟩
  · obtain ⟨a, s, hv, _⟩ := laid_sentinel (n := "strconv.ErrRange") (g := 5) (ti := 79) (tp := 154) (te := 156) (ts := 9) h4 (by kernel_rfl) (by kernel_rfl) Tryz.underlying79 (fun u hu => name_one hu) Tryz.underlying154 Tryz.underlying156 rfl rfl Tryz.underlying9 (by kernel_rfl) (by kernel_rfl)
    have := World.var?_cell (by kernel_rfl : Tryz.prog.globalNamed "strconv.ErrRange" = some 5) hv 0
    exact ⟨_, by simpa using this, .inr ⟨_, _, rfl⟩⟩

set_option maxRecDepth 100000
/-- A datum's cells. -/
def dataCells : Nat → DataW Unit → List Value
  | _n + 1, .lit (.int k z) => [.int k z]
  | n + 1, .agg ds => ds.flatMap (dataCells n)
  | _, _ => []
/-- A world in which the listed tables are laid. -/
noncomputable def laidAt (os : Os) (l : List (Nat × DataW Unit)) : World :=
  let w0 := World.holding Tryz.prog os ⟨#[], #[], []⟩
  { w0 with heap := l.foldl (fun h x => h.modify x.1 fun
    | .cells _ t frozen => .cells (dataCells 4 x.2).toArray t frozen
    | o => o) w0.heap }
end Go.Proofs.YtdjojfibjbjpdaaGreatDoor
