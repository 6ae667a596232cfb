/- What is proved: '==' and '!=' between structs (and nil, pointers) reckoned by a function, and that it is right of the machine's own. Conditions: none. -/
import Derived.Test.YtcegmpijknpgeaaDoorJC
set_option linter.unusedSimpArgs false
set_option linter.unusedVariables false
namespace Go.J
open Go Go.RowKit

/-- the fields of a struct type have names, no stand-in, and no interface in them: a Bool for the kernel -/
def eqOk (P : Program) : Nat → TypeId → Bool
  | 0, _ => false
  | d + 1, t => match P.underlying t with
    | some (.struct fs) => !P.stoodInHeld t && fs.all fun f => f.name != "_" && eqOk P d f.type
    | some .bool => true
    | some (.int _) => true
    | some .string => true
    | _ => false
def eqFs (P : Program) (eq : TypeId → Value → Value → Option Bool) (xs ys : List Value) : List Field → Option Bool
  | [] => some true
  | ⟨_, ty, off, _, _, _, _⟩ :: fs => match partOf P ty xs off, partOf P ty ys off with
    | some a, some b => match eq ty a b with
      | some r => match fs with
        | [] => some r
        | f :: fs' => match eqFs P eq xs ys (f :: fs') with
          | some r' => some (r && r')
          | none => none
      | none => none
    | _, _ => none
def eqV (P : Program) : Nat → TypeId → Value → Value → Option Bool
  | 0, _, _, _ => none
  | d + 1, t, x, y => match P.underlying t with
    | some .bool => match x, y with
      | .bool a, .bool b => some (decide (a = b))
      | _, _ => none
    | some (.int _) => match x, y with
      | .int k a, .int k' b => match decide (k = k') with
        | true => some (decide (a = b))
        | false => none
      | _, _ => none
    | some .string => match x, y with
      | .string ⟨⟨a⟩⟩, .string ⟨⟨b⟩⟩ => some (decide (a = b))
      | _, _ => none
    | some (.struct ⟨fs⟩) => match x, y with
      | .agg ⟨xs⟩, .agg ⟨ys⟩ => eqFs P (eqV P d) xs ys fs
      | _, _ => none
    | _ => none

theorem eqFs_spec {P : Program} {eq : TypeId → Value → Value → Option Bool} {xs ys : List Value} {m c : Nat} (w : World)
    (heq : ∀ t x y r, eq t x y = some r → eqOk P m t = true → (Op.equalIn (m + c) t x y).run P w = .ok r w) :
    ∀ {fs : List Field} {r : Bool}, (∀ f ∈ fs, (f.name != "_") = true ∧ eqOk P m f.type = true) → eqFs P eq xs ys fs = some r → (Op.eqFields (m + c) ⟨xs⟩ ⟨ys⟩ fs).run P w = .ok r w
  | [], r, _, h => by simp only [eqFs, Option.some.injEq] at h; subst h; simp [Op.eqFields]
  | ⟨nm, ty, off, em, tg, pk, bo⟩ :: fs, r, hn, h => by
    have h0 := hn _ (List.mem_cons_self ..)
    have hne : nm ≠ "_" := by simpa using h0.1
    unfold eqFs at h
    split at h
    · rename_i a b ha hb
      split at h
      · rename_i r0 hr0
        have he := heq _ _ _ _ hr0 h0.2
        unfold Op.eqFields
        simp only [ne_eq, hne, not_false_eq_true, if_true, Sem.run_bind, run_part ha, run_part hb, he, Result.andThen_ok]
        split at h
        · simp only [Option.some.injEq] at h
          subst h
          cases r0 <;> simp [Op.eqFields]
        · rename_i f fs'
          split at h
          · rename_i r' hr'
            simp only [Option.some.injEq] at h
            subst h
            have ih := eqFs_spec w heq (fs := f :: fs') (fun g hg => hn g (List.mem_cons_of_mem _ hg)) hr'
            cases r0
            · simp
            · simpa using ih
          · cases h
      · cases h
    · cases h

theorem eqV_spec {P : Program} (c : Nat) (w : World) : ∀ (d : Nat) {t : TypeId} {x y : Value} {r : Bool}, eqV P d t x y = some r → eqOk P d t = true → (Op.equalIn (d + c) t x y).run P w = .ok r w
  | 0, t, x, y, r, h, _ => by simp [eqV] at h
  | d + 1, t, x, y, r, h, hk => by
    rw [show d + 1 + c = (d + c) + 1 by omega]
    unfold eqV at h
    split at h
    · rename_i hu
      split at h
      · simp only [Option.some.injEq] at h; subst h; rw [← beq_dec]; exact run_equalIn_bool' w _ t _ _ hu
      · cases h
    · rename_i k0 hu
      split at h
      · rename_i k a k' b
        split at h
        · rename_i hkk
          have hkk : k = k' := by simpa using hkk
          subst hkk
          simp only [Option.some.injEq] at h; subst h; rw [← beq_dec]; exact run_equalIn_int w _ t _ _ _ _ hu
        · cases h
      · cases h
    · rename_i hu
      split at h
      · simp only [Option.some.injEq] at h; subst h
        rw [← beq_dec, run_equalIn_string w _ t _ _ hu, toList_mk, toList_mk]
      · cases h
    · rename_i fs hu
      split at h
      · rename_i xs ys
        have hf : P.fieldsOf t = ⟨fs⟩ := by unfold Program.fieldsOf; rw [hu]
        unfold eqOk at hk
        rw [hu] at hk
        simp only [Bool.and_eq_true, Bool.not_eq_true', Array.all_eq_true_iff_forall_mem] at hk
        rw [run_equalIn_struct w (d + c) t _ _ (by rw [hf]; exact hu) hk.1, hf]
        exact eqFs_spec w (fun t' x' y' r' h' hk' => eqV_spec c w d h' hk') (fun f hf => by have := hk.2 f (by simpa using hf); exact this) h
      · cases h
    · cases h

section
variable {P : Program} {N : Nat} {f : Fr} {w w0 : World} {Q : Post} {ops l : List Oper} {o : Oper} {ρ : Operand → Value}
theorem run_eqStruct {t ty : TypeId} {x y : Operand} {xs ys : List Value} {r : Bool} (ho : o.op = .binOp .eql t x y ty) (hx : ρ x = .agg ⟨xs⟩) (hy : ρ y = .agg ⟨ys⟩) (hv : eqV P 5 t (.agg ⟨xs⟩) (.agg ⟨ys⟩) = some r)
    (hk : (eqOk P 5 t && !P.eqGuardType P.depth t) = true) : (execOp ρ o).run P w = .ok (.value (.bool r)) w := by
  simp only [Bool.and_eq_true, Bool.not_eq_true'] at hk
  have h1 : (Op.equalIn 10000 t (.agg ⟨xs⟩) (.agg ⟨ys⟩)).run P w = .ok r w := eqV_spec 9995 w 5 hv hk.1
  have h2 := run_eqGuard_agg (P := P) w .eql t x y ⟨xs⟩ ⟨ys⟩ hk.2
  simp only [execOp, ho, hx, hy, Sem.run_bind, h2, Result.andThen_ok, run_eql_struct, h1]
  rfl
theorem run_neStruct {t ty : TypeId} {x y : Operand} {xs ys : List Value} {r : Bool} (ho : o.op = .binOp .neq t x y ty) (hx : ρ x = .agg ⟨xs⟩) (hy : ρ y = .agg ⟨ys⟩) (hv : eqV P 5 t (.agg ⟨xs⟩) (.agg ⟨ys⟩) = some r)
    (hk : (eqOk P 5 t && !P.eqGuardType P.depth t) = true) : (execOp ρ o).run P w = .ok (.value (.bool (!r))) w := by
  simp only [Bool.and_eq_true, Bool.not_eq_true'] at hk
  have h1 : (Op.equalIn 10000 t (.agg ⟨xs⟩) (.agg ⟨ys⟩)).run P w = .ok r w := eqV_spec 9995 w 5 hv hk.1
  have h2 := run_eqGuard_agg (P := P) w .neq t x y ⟨xs⟩ ⟨ys⟩ hk.2
  simp only [execOp, ho, hx, hy, Sem.run_bind, h2, Result.andThen_ok, run_neq_struct, h1]
  rfl
theorem WL.eqS {t ty : TypeId} {x y : Operand} {xs ys : List Value} {r : Bool} (ho : o.op = .binOp .eql t x y ty) (hx : ev f x = .agg ⟨xs⟩) (hy : ev f y = .agg ⟨ys⟩) (hv : eqV P 5 t (.agg ⟨xs⟩) (.agg ⟨ys⟩) = some r)
    (hk : (eqOk P 5 t && !P.eqGuardType P.depth t) = true) (hg : wants ops f o = true) {d : Nat} (hd : o.dst = some d) (hn : Nat.blt d N = true) (h : WL P N ops l (up f d (.bool r)) w Q) : WL P N ops (o :: l) f w Q :=
  .val hg hd hn (run_eqStruct ho hx hy hv hk) h
theorem WL.neS {t ty : TypeId} {x y : Operand} {xs ys : List Value} {r : Bool} (ho : o.op = .binOp .neq t x y ty) (hx : ev f x = .agg ⟨xs⟩) (hy : ev f y = .agg ⟨ys⟩) (hv : eqV P 5 t (.agg ⟨xs⟩) (.agg ⟨ys⟩) = some r)
    (hk : (eqOk P 5 t && !P.eqGuardType P.depth t) = true) (hg : wants ops f o = true) {d : Nat} (hd : o.dst = some d) (hn : Nat.blt d N = true) (h : WL P N ops l (up f d (.bool (!r))) w Q) : WL P N ops (o :: l) f w Q :=
  .val hg hd hn (run_neStruct ho hx hy hv hk) h
end
section
variable {P : Program} {N : Nat} {f : Fr} {w : World} {Q : Post} {ops : List Oper} {S : World → Prop} {q : Qs} {l : List Nat} {i : Nat}
theorem WD.eqS {t ty : TypeId} {x y : Operand} {xs ys : List Value} {r : Bool} (ho : (ix ops i).op = .binOp .eql t x y ty) (hx : ev f x = .agg ⟨xs⟩) (hy : ev f y = .agg ⟨ys⟩) (hv : eqV P 5 t (.agg ⟨xs⟩) (.agg ⟨ys⟩) = some r)
    (hk : (eqOk P 5 t && !P.eqGuardType P.depth t) = true) (hq : q.contains i = true) (hg : wants ops f (ix ops i) = true) {d : Nat} (hd : (ix ops i).dst = some d) (hn : Nat.blt d N = true) (h : WD P N S ops q l (up f d (.bool r)) w Q) : WD P N S ops q (i :: l) f w Q :=
  .take hq hd hn (.inl ⟨hg, fun _ _ => run_eqStruct ho hx hy hv hk⟩) h
theorem WD.neS {t ty : TypeId} {x y : Operand} {xs ys : List Value} {r : Bool} (ho : (ix ops i).op = .binOp .neq t x y ty) (hx : ev f x = .agg ⟨xs⟩) (hy : ev f y = .agg ⟨ys⟩) (hv : eqV P 5 t (.agg ⟨xs⟩) (.agg ⟨ys⟩) = some r)
    (hk : (eqOk P 5 t && !P.eqGuardType P.depth t) = true) (hq : q.contains i = true) (hg : wants ops f (ix ops i) = true) {d : Nat} (hd : (ix ops i).dst = some d) (hn : Nat.blt d N = true) (h : WD P N S ops q l (up f d (.bool (!r))) w Q) : WD P N S ops q (i :: l) f w Q :=
  .take hq hd hn (.inl ⟨hg, fun _ _ => run_neStruct ho hx hy hv hk⟩) h
end
end Go.J
