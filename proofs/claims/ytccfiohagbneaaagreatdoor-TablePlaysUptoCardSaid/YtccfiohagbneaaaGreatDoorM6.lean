/- What is proved: contracts and plain facts that the law leans on (texts put together). Conditions: as each names them. -/
import Derived.Test.YtccfiohagbneaaaGreatDoorM5
import Derived.Lib.LaidTab
import Derived.Stop.LaidErr
set_option linter.unusedSimpArgs false
set_option linter.unusedVariables false
set_option linter.unusedSectionVars false
/- What is proved: what the reference's table does: Batch, Pack, Commit. Conditions: a disk without limits, of bounded size. -/
namespace Go.Proofs.YtccfiohagbneaaaGreatDoor
open Go Go.J Go.RowKit
def batF (o : Chg) (s : Bool × List Chg) (x : Chg) : Bool × List Chg := if x.key = o.key then (true, s.2 ++ [o]) else (s.1, s.2 ++ [x])
def batR (l : List Chg) (o : Chg) : List Chg := let s := l.foldl (batF o) (false, []); if s.1 then s.2 else s.2 ++ [o]
theorem batF_snd (o : Chg) : ∀ (l : List Chg) (s : Bool × List Chg), (l.foldl (batF o) s).2 = s.2 ++ l.map (fun x => if x.key = o.key then o else x)
  | [], s => by simp
  | x :: l, s => by
    rw [List.foldl_cons, batF_snd o l]
    unfold batF
    by_cases h : x.key = o.key
    · simp [h]
    · simp [h]
theorem batF_fst (o : Chg) : ∀ (l : List Chg) (s : Bool × List Chg), (l.foldl (batF o) s).1 = (s.1 || decide (o.key ∈ l.map (·.key)))
  | [], s => by simp
  | x :: l, s => by
    rw [List.foldl_cons, batF_fst o l]
    unfold batF
    by_cases h : x.key = o.key
    · simp [h]
    · have : ¬ o.key = x.key := fun e => h e.symm
      simp [h, this]
def BkOk (m : Bch) : Prop := (m.map Prod.fst).Nodup ∧ ∀ p ∈ m, p.2.key = p.1
theorem BkOk.nil : BkOk [] := ⟨List.nodup_nil, fun p hp => by cases hp⟩
theorem BkOk.note {m : Bch} (h : BkOk m) (o : Chg) : BkOk (noteE m o) := by
  refine ⟨mset_nodup h.1 _ _, fun p hp => ?_⟩
  have : p ∈ mset m o.key o := hp
  rcases mset_in2 this with h1 | h1
  · exact h.2 p h1
  · rw [h1]
where mset_in2 : ∀ {m : Bch} {x : List UInt8} {v : Chg} {p : List UInt8 × Chg}, p ∈ mset m x v → p ∈ m ∨ p = (x, v)
  | [], x, v, p, h => .inr (by simpa [mset] using h)
  | (k, u) :: m, x, v, p, h => by
    unfold mset at h
    split at h
    · rename_i e
      rcases List.mem_cons.1 h with h | h
      · exact .inr (by rw [h, e])
      · exact .inl (List.mem_cons_of_mem _ h)
    · rcases List.mem_cons.1 h with h | h
      · exact .inl (by rw [h]; exact List.mem_cons_self ..)
      · rcases mset_in2 h with h | h
        · exact .inl (List.mem_cons_of_mem _ h)
        · exact .inr h
theorem bat_mset : ∀ {m : Bch} (o : Chg), BkOk m → (mset m o.key o).map Prod.snd = if o.key ∈ m.map Prod.fst then (m.map Prod.snd).map (fun x => if x.key = o.key then o else x) else m.map Prod.snd ++ [o]
  | [], o, _ => by simp [mset]
  | (k, u) :: m, o, h => by
    have hn := List.nodup_cons.1 h.1
    have hu : u.key = k := h.2 (k, u) (List.mem_cons_self ..)
    have hm : BkOk m := ⟨hn.2, fun p hp => h.2 p (List.mem_cons_of_mem _ hp)⟩
    unfold mset
    by_cases e : o.key = k
    · rw [if_pos e, if_pos (by simp [e])]
      simp only [List.map_cons]
      rw [if_pos (by rw [hu, e])]
      congr 1
      have hid : ∀ x ∈ m.map Prod.snd, (if x.key = o.key then o else x) = x := fun x hx => by
        obtain ⟨p, hp, rfl⟩ := List.mem_map.1 hx
        rw [if_neg]
        rw [hm.2 p hp, e]
        intro e2
        exact hn.1 (List.mem_map.2 ⟨p, hp, e2⟩)
      exact (List.map_congr_left (g := id) hid).trans (List.map_id _) |>.symm
    · rw [if_neg e]
      simp only [List.map_cons, List.mem_cons, e, false_or]
      rw [bat_mset o hm, if_neg (show ¬ u.key = o.key from fun e2 => e (by rw [← e2, hu]))]
      split <;> rfl
theorem BkOk.bat {m : Bch} (h : BkOk m) (o : Chg) : batR (m.map Prod.snd) o = (noteE m o).map Prod.snd := by
  have hk : (m.map Prod.snd).map (·.key) = m.map Prod.fst := by rw [List.map_map]; exact List.map_congr_left fun p hp => h.2 p hp
  unfold batR noteE
  dsimp only
  rw [batF_fst, batF_snd, hk, bat_mset o h]
  by_cases hc : o.key ∈ m.map Prod.fst
  · rw [if_pos hc]; simp [hc]
  · rw [if_neg hc]
    simp only [hc, decide_false, Bool.or_false, Bool.false_eq_true, if_false, List.nil_append]
    congr 1
    have hid : ∀ x ∈ m.map Prod.snd, (if x.key = o.key then o else x) = x := fun x hx => by
      rw [if_neg]
      intro e2
      exact hc (by rw [← hk, ← e2]; exact List.mem_map.2 ⟨x, hx, rfl⟩)
    exact (List.map_congr_left (g := id) hid).trans (List.map_id _)
set_option maxHeartbeats 16000000 in
set_option maxRecDepth 100000 in
theorem rtbatch_c (l : List Chg) (o : Chg) {A : Option Addr} {cap : Nat} {w0 : World} (h : SlAt cChg (Old w0) w0 A l) (hl : l.length ≤ 268435456) :
    Cal Tryz.prog 40 [.slice A l.length cap, .agg ⟨cellsChg o⟩] w0 (fun v w' => Upd [] w0 w' ∧ ∃ B c, v = .slice B (batR l o).length c ∧ New w0 w' (.own (.slice B (batR l o).length c) 79 3 (batR l o).length (chgs (batR l o)))) := by
  refine Cal.mk' (by kernel_rfl) Tryz.func40 rfl rfl fun hS => ?_
  have hR : batR l o = if (l.foldl (batF o) (false, [])).1 then (l.foldl (batF o) (false, [])).2 else (l.foldl (batF o) (false, [])).2 ++ [o] := rfl
  have hL : ∀ i, ((l.take i).foldl (batF o) (false, [])).2.length ≤ l.length := fun i => by rw [batF_snd]; simp only [List.nil_append, List.length_map, List.length_take]; omega
  have hsn : ∀ i (h : i < l.length), (l.take (i + 1)).foldl (batF o) (false, []) = batF o ((l.take i).foldl (batF o) (false, [])) l[i] := fun i h => by rw [List.take_succ_eq_append_getElem h, List.foldl_append]; rfl
  obtain ⟨key, val, gone⟩ := o
  have hfd : ∀ s x, batF ⟨key, val, gone⟩ s x = if x.key = key then (true, s.2 ++ [⟨key, val, gone⟩]) else (s.1, s.2 ++ [x]) := fun _ _ => rfl
  unfold cellsChg
  dsimp only at hR hL hsn ⊢
  rw [hR]
  generalize batF ⟨key, val, gone⟩ = F at *
  clear hR
  have hS := hS.nilRow 79 3
  repeat' (first | (show WL _ _ _ _ _ _ _; first | refine WL.pure rfl rfl rfl rfl ?_ | refine WL.nil ?_ | (refine WL.box hS rfl rfl rfl rfl rfl ?_; intro w b hS)) | (show WC _ _ _ _ _ _; first | refine WC.seq ?_ | refine WC.region ?_ | refine WC.block ?_) | refine seqQ_n ?_)
  refine WC.loop (σ := Nat × Bool × List Chg × Option Addr × Nat) [0, 3] (fun (i, d, out, B, c) => [(5, .slice B out.length c), (6, .bool d), (7, .int .i64 (i : Int))])
    (fun (i, d, out, B, c) w => (i ≤ l.length ∧ (d, out) = (l.take i).foldl F (false, [])) ∧ St w0 [] w [.box b 79 [str key, str val, .bool gone], .own (.slice B out.length c) 79 3 out.length (chgs out)] [⟨w0, Old w0⟩]) (fun (i, _) => l.length - i) (0, false, [], none, 0) ⟨⟨Nat.zero_le _, rfl⟩, hS.droplast2 Pu⟩ ⟨rfl, rfl, rfl, trivial⟩ ?_
  clear hS
  rintro ⟨i, d, out, B, c⟩ g w ⟨⟨hi, ho⟩, hS⟩
  show WC _ _ _ (lf _ [(5, .slice B out.length c), (6, .bool d), (7, .int .i64 (i : Int))] _ _) _ _
  obtain ⟨xb, hxb⟩ : ∃ xb, xb = b := ⟨_, rfl⟩
  subst hxb
  have hol : out.length ≤ 268435456 := by
    have := hL i
    rw [← ho] at this
    have : out.length ≤ l.length := this
    omega
  by_cases hlt : i < l.length
  · obtain ⟨rb, ro, es, rfl, hF, hr, hes⟩ := h.at_ hlt
    have hes : es = cellsChg l[i] := hes
    subst hes
    have hr : w0.rangeAt rb (ro + i * 3) (cellsChg l[i]) := hr
    have hnx := hsn i hlt
    rw [← ho, hfd] at hnx
    clear hL hsn hfd
    generalize l[i] = r at *
    obtain ⟨k, v, gn⟩ := r
    unfold cellsChg at hr
    dsimp only at hr hnx
    by_cases hk : k = key
    · rw [if_pos hk] at hnx
      have hlen : out.length + 1 = (out ++ [(⟨key, val, gone⟩ : Chg)]).length := by simp
      repeat' (first | (show WL _ _ _ _ _ _ _; first | refine WL.pure rfl rfl rfl rfl ?_ | refine WL.nil ?_ | refine WL.load hS rfl rfl (LdOk.box Mm rfl) rfl rfl rfl ?_ | refine WL.add rfl rfl rfl (by omega) rfl rfl rfl ?_ | (refine WL.app (m := 1) hS rfl rfl rfl rfl (RdOk.box Mm) rfl rfl (fun A cap => Rp) (by omega) rfl rfl rfl ?_; intro A3 cap3 w hS) | (refine WL.slit hS rfl rfl rfl rfl rfl ?_; intro w b hS)) | (show WC _ _ _ _ _ _; first | refine WC.seq ?_ | refine WC.region ?_ | refine WC.block ?_ | refine WC.skip ?_ | (show WC _ _ (Code.region _ (List.toArray [_, _, _, _, _, _, _, _]) true) _ _ _; refine WC.drawS hS [0, 1, 2, 3, 4, 5, 6, 7] [0, 1, 2, 3, 4, 5, 6, 7] (by kernel_rfl) (by kernel_rfl) ?_; clear hS; intro w hS hM) | refine WC.condT rfl (decide_eq_true (by first | with_reducible assumption | omega)) ?_) | (show WD _ _ _ _ _ _ _ _ _; first | refine WD.pure rfl rfl rfl rfl rfl ?_ | refine WD.nil ?_ | refine WD.load rfl rfl (LdOk.box Mm rfl) rfl rfl rfl rfl ?_ | (refine WD.load rfl rfl (LdOk.snap0 hF hr Mm rfl) rfl rfl rfl rfl ?_) | refine WD.index rfl rfl rfl rfl (by first | with_reducible assumption | omega) rfl rfl rfl rfl rfl ?_) | refine seqQ_n ?_ | refine blkQ_n ?_)
      replace hS : St w0 _ w (_ :: _ :: .own (.slice A3 (out.length + 1) cap3) 79 3 (out.length + 1) (chgs out ++ cellsChg ⟨key, val, gone⟩) :: _) _ := hS
      rw [chgs_snoc, hlen] at hS
      exact rndQ_n (i + 1, true, out ++ [⟨key, val, gone⟩], A3, cap3) ⟨⟨by omega, hnx.symm⟩, hS.droplast2 Pu⟩ (by show l.length - (i + 1) < l.length - i; omega) ⟨(by rw [← hlen]; rfl), rfl, vint (by omega), trivial⟩ ⟨rfl, rfl, trivial⟩
    · rw [if_neg hk] at hnx
      have hlen : out.length + 1 = (out ++ [(⟨k, v, gn⟩ : Chg)]).length := by simp
      repeat' (first | (show WL _ _ _ _ _ _ _; first | refine WL.pure rfl rfl rfl rfl ?_ | refine WL.nil ?_ | refine WL.add rfl rfl rfl (by omega) rfl rfl rfl ?_ | (refine WL.load hS rfl rfl (LdOk.snap0 hF hr Mm rfl) rfl rfl rfl ?_) | (refine WL.app (m := 1) hS rfl rfl rfl rfl (RdOk.box Mm) rfl rfl (fun A cap => Rp) (by omega) rfl rfl rfl ?_; intro A3 cap3 w hS) | refine WL.index rfl rfl rfl rfl (by first | with_reducible assumption | omega) rfl rfl rfl rfl ?_ | (refine WL.slit hS rfl rfl rfl rfl rfl ?_; intro w b hS)) | (show WC _ _ _ _ _ _; first | refine WC.seq ?_ | refine WC.region ?_ | refine WC.block ?_ | refine WC.skip ?_ | (show WC _ _ (Code.region _ (List.toArray [_, _, _, _, _, _, _, _]) true) _ _ _; refine WC.drawS hS [0, 1, 2, 3, 4, 5, 6, 7] [0, 1, 2, 3, 4, 5, 6, 7] (by kernel_rfl) (by kernel_rfl) ?_; clear hS; intro w hS hM) | refine WC.condT rfl (decide_eq_true (by first | with_reducible assumption | omega)) ?_ | refine WC.condF rfl (decide_eq_false (by first | with_reducible assumption | omega)) ?_) | (show WD _ _ _ _ _ _ _ _ _; first | refine WD.pure rfl rfl rfl rfl rfl ?_ | refine WD.nil ?_ | refine WD.load rfl rfl (LdOk.box Mm rfl) rfl rfl rfl rfl ?_ | (refine WD.load rfl rfl (LdOk.snap0 hF hr Mm rfl) rfl rfl rfl rfl ?_) | refine WD.index rfl rfl rfl rfl (by first | with_reducible assumption | omega) rfl rfl rfl rfl rfl ?_) | refine seqQ_n ?_ | refine blkQ_n ?_)
      replace hS : St w0 _ w (_ :: _ :: .own (.slice A3 (out.length + 1) cap3) 79 3 (out.length + 1) (chgs out ++ cellsChg ⟨k, v, gn⟩) :: _) _ := hS
      rw [chgs_snoc, hlen] at hS
      exact rndQ_n (i + 1, d, out ++ [⟨k, v, gn⟩], A3, cap3) ⟨⟨by omega, hnx.symm⟩, hS.droplast2 Pu⟩ (by show l.length - (i + 1) < l.length - i; omega) ⟨(by rw [← hlen]; rfl), rfl, vint (by omega), trivial⟩ ⟨rfl, rfl, trivial⟩
  · have hke : i = l.length := by omega
    subst hke
    rw [List.take_length] at ho
    rw [← ho]
    clear hL hsn hfd
    cases d with
    | true =>
      repeat' (first | (show WL _ _ _ _ _ _ _; first | refine WL.pure rfl rfl rfl rfl ?_ | refine WL.nil ?_) | (show WC _ _ _ _ _ _; first | refine WC.seq ?_ | refine WC.region ?_ | refine WC.skip ?_ | refine WC.exit ?_ | refine WC.ret ?_ | refine WC.condF rfl (by decide) ?_ | refine WC.condF rfl (decide_eq_false (by first | with_reducible assumption | omega)) ?_) | refine seqQ_n ?_ | refine seqQ_x ?_ | refine blkQ_hit rfl ?_ | refine rndQ_x ?_)
      exact fin1r rfl rfl ⟨hS.upd, _, _, rfl, hS.newOf Mm⟩
    | false =>
      have hlen : out.length + 1 = (out ++ [(⟨key, val, gone⟩ : Chg)]).length := by simp
      repeat' (first | (show WL _ _ _ _ _ _ _; first | refine WL.pure rfl rfl rfl rfl ?_ | refine WL.nil ?_ | refine WL.load hS rfl rfl (LdOk.box Mm rfl) rfl rfl rfl ?_ | (refine WL.app (m := 1) hS rfl rfl rfl rfl (RdOk.box Mm) rfl rfl (fun A cap => Rp) (by omega) rfl rfl rfl ?_; intro A3 cap3 w hS) | (refine WL.slit hS rfl rfl rfl rfl rfl ?_; intro w b hS)) | (show WC _ _ _ _ _ _; first | refine WC.seq ?_ | refine WC.region ?_ | refine WC.exit ?_ | refine WC.ret ?_ | refine WC.condT rfl (by decide) ?_ | refine WC.condF rfl (decide_eq_false (by first | with_reducible assumption | omega)) ?_) | refine seqQ_n ?_ | refine seqQ_x ?_ | refine blkQ_hit rfl ?_ | refine rndQ_x ?_)
      replace hS : St w0 _ w (_ :: _ :: .own (.slice A3 (out.length + 1) cap3) 79 3 (out.length + 1) (chgs out ++ cellsChg ⟨key, val, gone⟩) :: _) _ := hS
      rw [chgs_snoc, hlen] at hS
      exact fin1r rfl rfl ⟨hS.upd, A3, cap3, (by dsimp only; rw [if_neg (by decide), ← hlen]), hS.newOf Mm⟩
def utφ (u dk : Nat) (T : Tb) (D : List Chunk) : Prop := ∃ Lm A cap l fm, RepT l T.rows ∧ D = [.box u 145 [.pointer (some ⟨dk, 0, none⟩), str T.dir, .pointer (some ⟨Lm, 0, none⟩), .slice A l.length cap], .own (.slice A l.length cap) 159 2 l.length (rts l), rlC Lm dk T.log fm]
abbrev utC (u dk : Nat) (T : Tb) (fp : List Nat) : Chunk := objC (utφ u dk T) fp
structure UtAt (u dk Lm : Nat) (A : Option Addr) (cap : Nat) (dir : List UInt8) (l : List Rt) (w : World) : Prop where
  box : w.heap[u]? = some (.cells ⟨[.pointer (some ⟨dk, 0, none⟩), str dir, .pointer (some ⟨Lm, 0, none⟩), .slice A l.length cap]⟩ 145 (0, 0))
  row : SlAt cRt (Old w) w A l
theorem fill_len (D : Dk) (p s : List UInt8) : (D.fill p s).2.items.length ≤ D.items.length + 3 := by
  have h1 := write_le D (p ++ [95, 116]) s
  have h2 := sync_le (D.write (p ++ [95, 116]) s).2 (p ++ [95, 116])
  have h3 : ∀ (E : Dk) (a b : List UInt8), (E.rename a b).2.items.length ≤ E.items.length + 1 := fun E a b => by
    have hs := step_items E
    unfold Dk.rename
    repeat' split
    all_goals first
      | exact Nat.le_succ _
      | (show E.step.items.length ≤ _; rw [hs]; omega)
      | exact Nat.le_trans (mset_leT (mdel E.step.items a) b _) (Nat.succ_le_succ (Nat.le_trans (mdel_sub _ _).length_le (Nat.le_of_eq (congrArg List.length hs))))
  have h4 := h3 ((D.write (p ++ [95, 116]) s).2.sync (p ++ [95, 116])).2 (p ++ [95, 116]) p
  unfold Dk.fill
  repeat' split
  all_goals omega
set_option maxHeartbeats 16000000 in
set_option maxRecDepth 100000 in
theorem rtpack_c {u dk : Nat} {D D' : Dk} {T T' : Tb} {fu fq : List Nat} {w0 : World} {e : Int} (hi : InL w0 [utC u dk T fu, rfC dk D fq]) (hu : tabPack T D = (e, T', D')) (hl : T.dir.length ≤ 1099511000) (hlg : T.log.p.length ≤ 1099511620) (hno : D.Sm 1099511627776) (hit : D.items.length ≤ 1000000)
    (hr : (recordE (packL T.rows)).length ≤ 549755813888) (hn : T.rows.length ≤ 1048576) :
    Cal Tryz.prog 45 [.pointer (some ⟨u, 0, none⟩)] w0
      (fun v w' => v = .int .i64 e ∧ ∃ fu' fq', MutL w0 w' [utC u dk T fu, rfC dk D fq] [utC u dk T' fu', rfC dk D' fq']) := by
  refine Cal.mkL hi (by kernel_rfl) Tryz.func45 rfl rfl fun hS => ?_
  obtain ⟨_, ⟨Lm, A, cap, l, fm, hR, rfl⟩, hfp, hS⟩ := St.objOpen hS
  obtain ⟨dir, rows, G⟩ := T
  replace hS : St w0 _ w0 [.box u 145 [.pointer (some ⟨dk, 0, none⟩), str dir, .pointer (some ⟨Lm, 0, none⟩), .slice A l.length cap], .own (.slice A l.length cap) 159 2 l.length (rts l), rlC Lm dk G fm, rfC dk D fq] _ := hS
  dsimp only at hl hlg hr hn hu hR
  have hk5 : ([47, 98, 97, 115, 101] : List UInt8).length = 5 := rfl
  have hbp : dir ++ [47, 98, 97, 115, 101] = baseP dir := rfl
  have hln : l.length ≤ 1048576 := by rw [hR.len]; exact hn
  have hpk := hR.packL
  have hpkl := packE_len (recordE (packL rows))
  have hpn := putN_len10 (n := (recordE (packL rows)).length) (by omega)
  replace hu : (if (D.fill (baseP dir) (packE (recordE (packL rows)))).1 ≠ 0 then ((D.fill (baseP dir) (packE (recordE (packL rows)))).1, (⟨dir, rows, G⟩ : Tb), (D.fill (baseP dir) (packE (recordE (packL rows)))).2)
      else (((D.fill (baseP dir) (packE (recordE (packL rows)))).2.fill G.p []).1, ⟨dir, rows, G.reset ((D.fill (baseP dir) (packE (recordE (packL rows)))).2.fill G.p []).1⟩, ((D.fill (baseP dir) (packE (recordE (packL rows)))).2.fill G.p []).2)) = (e, T', D') := hu
  have hF := fun (w : World) (hI : InL w [rfC dk D fq]) => rffill_c (baseP dir) (packE (recordE (packL rows))) hI (by rw [← hbp, List.length_append]; omega) (by omega) hno (by omega)
  have hn1 := fill_len D (baseP dir) (packE (recordE (packL rows)))
  have hsm1 : (D.fill (baseP dir) (packE (recordE (packL rows)))).2.Sm 1099511627776 := hno.fill (by omega)
  generalize D.fill (baseP dir) (packE (recordE (packL rows))) = r1 at *
  obtain ⟨e1, D1⟩ := r1
  dsimp only at hF hn1 hsm1 hu
  have hG := fun (f1 : List Nat) (w : World) (hI : InL w [rlC Lm dk G fm, rfC dk D1 f1]) => rlreset_c hI hlg (by omega) hsm1
  generalize D1.fill G.p [] = r2 at *
  obtain ⟨e2, D2⟩ := r2
  dsimp only at hG hu
  have hS := hS.nilRow 79 3
  repeat' (first | (show WL _ _ _ _ _ _ _; first | refine WL.pure rfl rfl rfl rfl ?_ | refine WL.nil ?_) | (show WC _ _ _ _ _ _; first | refine WC.seq ?_ | refine WC.region ?_ | refine WC.block ?_) | refine seqQ_n ?_)
  refine WC.loop (σ := Nat × Option Addr × Nat) [0] (fun (i, B, c) => [(3, .slice B i c), (4, .int .i64 (i : Int))])
    (fun (i, B, c) w => i ≤ l.length ∧ St w0 _ w [.own (.slice B i c) 79 3 i (chgs ((l.take i).map fun r => (⟨r.key, r.val, false⟩ : Chg))), .box u 145 [.pointer (some ⟨dk, 0, none⟩), str dir, .pointer (some ⟨Lm, 0, none⟩), .slice A l.length cap], .own (.slice A l.length cap) 159 2 l.length (rts l), rlC Lm dk G fm, rfC dk D fq] _) (fun (i, _) => l.length - i) (0, none, 0) ⟨Nat.zero_le _, hS⟩ ⟨rfl, rfl, trivial⟩ ?_
  clear hS
  rintro ⟨i, B, c⟩ g w ⟨hi2, hS⟩
  show WC _ _ _ (lf _ [(3, .slice B i c), (4, .int .i64 (i : Int))] _ _) _ _
  by_cases hlt : i < l.length
  · obtain ⟨kg, ko, rfl⟩ := hS.own_addr (A := A) (n := l.length) (e := 159) (size := 2) Mm (by omega)
    have hpa : (rts l)[i * 2]? = some (str l[i].key) := rts_at hlt (j := 0) (by decide)
    have hpv : (rts l)[i * 2 + 1]? = some (str l[i].val) := rts_at hlt (j := 1) (by decide)
    have hnx : chgs ((l.take i).map fun r => (⟨r.key, r.val, false⟩ : Chg)) ++ [str l[i].key, str l[i].val, .bool false] = chgs ((l.take (i + 1)).map fun r => (⟨r.key, r.val, false⟩ : Chg)) := by
      rw [List.take_succ_eq_append_getElem hlt, List.map_append]; simp [chgs, cellsChg]
    generalize l[i] = r at *
    repeat' (first | (show WL _ _ _ _ _ _ _; first | refine WL.pure rfl rfl rfl rfl ?_ | refine WL.nil ?_ | refine WL.load hS rfl rfl (LdOk.box Mm rfl) rfl rfl rfl ?_ | refine WL.add rfl rfl rfl (by omega) rfl rfl rfl ?_) | (show WC _ _ _ _ _ _; first | refine WC.seq ?_ | refine WC.region ?_ | refine WC.block ?_ | refine WC.skip ?_ | (show WC _ _ (Code.region _ (List.toArray [_, _, _, _, _, _, _, _, _, _, _, _, _, _, _, _, _, _, _, _, _]) true) _ _ _; refine WC.drawL [.own (.slice B i c) 79 3 i (chgs ((l.take i).map fun r => (⟨r.key, r.val, false⟩ : Chg)))] hS Pu [0,1,2,3,4,5,6,7,8,9,10,11,12,13,14,15,16,17,20] [0,1,2,3,4,5,6,7,8,9,10,11,12,13,14,15,16,17,18,19,20] (by kernel_rfl) (by kernel_rfl) ?_; clear hS; intro w hS hM) | refine WC.condT rfl (decide_eq_true (by first | with_reducible assumption | omega)) ?_) | (show WD _ _ _ _ _ _ _ _ _; first | refine WD.pure rfl rfl rfl rfl rfl ?_ | refine WD.nil ?_ | refine WD.load rfl rfl (LdOk.box Mm rfl) rfl rfl rfl rfl ?_ | (refine WD.load rfl rfl (LdOk.ownAt (off := i * 2) Mm rfl ⟨_, rfl⟩ hpa rfl) rfl rfl rfl rfl ?_) | (refine WD.load rfl rfl (LdOk.ownAt (off := i * 2 + 1) Mm rfl ⟨_, rfl⟩ hpv rfl) rfl rfl rfl rfl ?_) | (refine WD.app (m := 1) hS Pl1 (More.chunk (.refl _ _) _) rfl rfl rfl rfl (RdOk.box Mm) rfl rfl (by omega) rfl rfl rfl rfl rfl ?_; clear hS hM; intro A2 cap2 w hS hM) | refine WD.index rfl rfl rfl rfl (by first | with_reducible assumption | omega) rfl rfl rfl rfl rfl ?_ | refine WD.build rfl rfl rfl rfl rfl rfl ?_ | (refine WD.slit hS hM rfl rfl rfl rfl rfl rfl rfl ?_; intro w b hS hM)) | refine seqQ_n ?_ | refine blkQ_n ?_)
    replace hS : St w0 _ w (.own (.slice A2 (i + 1) cap2) 79 3 (i + 1) (chgs ((l.take i).map fun r => (⟨r.key, r.val, false⟩ : Chg)) ++ [str r.key, str r.val, .bool false]) :: _) _ := hS
    rw [hnx] at hS
    exact rndQ_n (i + 1, A2, cap2) ⟨by omega, hS.droplast2 Pu⟩ (by show l.length - (i + 1) < l.length - i; omega) ⟨rfl, vint (by omega), trivial⟩ ⟨rfl, trivial⟩
  · have hke : i = l.length := by omega
    subst hke
    rw [List.take_length, hpk] at hS
    have hlp : l.length = (packL rows).length := by rw [← hpk, List.length_map]
    have hrec := fun (w : World) (B : Option Addr) (c : Nat) (hB : SlAt cChg (Old w) w B (packL rows)) => rrecord_c (packL rows) (cap := c) hB (by omega) (by omega)
    rw [← hlp] at hrec
    have hbpl : (dir ++ [47, 98, 97, 115, 101]).length = dir.length + 5 := by simp
    by_cases h1 : e1 = 0
    · rw [if_neg (fun hh => hh h1)] at hu
      subst h1
      cases hu
      repeat' (first | (show WL _ _ _ _ _ _ _; first | refine WL.pure rfl rfl rfl rfl ?_ | refine WL.nil ?_ | refine WL.load hS rfl rfl (LdOk.box Mm rfl) rfl rfl rfl ?_ | (refine WL.callL (D := [rlC Lm dk G fm, rfC dk D1 f1]) hS Pu rfl rfl (fun hI => hG _ _ hI) rfl rfl rfl ?_; rintro v w ⟨rfl, f2, f3, hm⟩ hS; replace hS := hS _ hm; clear hm)) | (show WC _ _ _ _ _ _; first | refine WC.seq ?_ | refine WC.region ?_ | refine WC.exit ?_ | refine WC.ret ?_ | (show WC _ _ (Code.region _ (List.toArray [_, _, _, _, _, _, _, _, _, _, _, _, _, _]) true) _ _ _; refine WC.drawL [rfC dk D fq] hS Pu [0,1,2,3,4,5,6,7,8,9,13] [0,1,2,3,4,5,6,7,8,9,10,11,12,13] (by kernel_rfl) (by kernel_rfl) ?_; clear hS; intro w hS hM) | refine WC.condT rfl (by decide) ?_ | refine WC.condF rfl (decide_eq_false (by first | with_reducible assumption | omega)) ?_) | (show WD _ _ _ _ _ _ _ _ _; first | refine WD.pure rfl rfl rfl rfl rfl ?_ | refine WD.nil ?_ | refine WD.load rfl rfl (LdOk.box Mm rfl) rfl rfl rfl rfl ?_ | (refine WD.cat rfl rfl rfl (by omega) rfl rfl rfl rfl ?_) | (refine WD.calls hS hM rfl rfl (hrec _ _ _ (St.ownSl (enc := cellsChg) (hsz := fun _ => rfl) (l := packL rows) (by decide) hS Mm)) rfl rfl rfl rfl rfl ?_; clear hS; rintro v w rfl hS) | (refine WD.calls hS hM rfl rfl (rpack_c (recordE (packL rows)) _ (by omega)) rfl rfl rfl rfl rfl ?_; clear hS; rintro v w rfl hS) | (refine WD.callL (D := [rfC dk D fq]) hS Pu (.refl _ _) rfl rfl (fun hI => hF _ hI) rfl rfl rfl rfl rfl ?_; rintro v w ⟨rfl, f1, hm⟩; refine ⟨_, hm, fun hS hM => ?_⟩; clear hm)) | refine seqQ_n ?_ | refine seqQ_x ?_ | refine blkQ_hit rfl ?_ | refine rndQ_x ?_)
      have hS := St.objClose (φ := utφ u dk ⟨dir, rows, G.reset e⟩) (hS.pulls (D := [.box u 145 [.pointer (some ⟨dk, 0, none⟩), str dir, .pointer (some ⟨Lm, 0, none⟩), .slice A l.length cap], .own (.slice A l.length cap) 159 2 l.length (rts l), rlC Lm dk (G.reset e) f2]) Pu) ⟨Lm, A, cap, l, f2, hR, rfl⟩
      exact fin1r rfl rfl ⟨rfl, _, _, hS.mutLp Pu⟩
    · rw [if_pos h1] at hu
      cases hu
      repeat' (first | (show WL _ _ _ _ _ _ _; first | refine WL.pure rfl rfl rfl rfl ?_ | refine WL.nil ?_ | refine WL.load hS rfl rfl (LdOk.box Mm rfl) rfl rfl rfl ?_) | (show WC _ _ _ _ _ _; first | refine WC.seq ?_ | refine WC.region ?_ | refine WC.skip ?_ | refine WC.exit ?_ | refine WC.ret ?_ | (show WC _ _ (Code.region _ (List.toArray [_, _, _, _, _, _, _, _, _, _, _, _, _, _]) true) _ _ _; refine WC.drawL [rfC dk D fq] hS Pu [0,1,2,3,4,5,6,7,8,9,13] [0,1,2,3,4,5,6,7,8,9,10,11,12,13] (by kernel_rfl) (by kernel_rfl) ?_; clear hS; intro w hS hM) | refine WC.condF rfl (decide_eq_false (by first | with_reducible assumption | omega)) ?_) | (show WD _ _ _ _ _ _ _ _ _; first | refine WD.pure rfl rfl rfl rfl rfl ?_ | refine WD.nil ?_ | refine WD.load rfl rfl (LdOk.box Mm rfl) rfl rfl rfl rfl ?_ | (refine WD.cat rfl rfl rfl (by omega) rfl rfl rfl rfl ?_) | (refine WD.calls hS hM rfl rfl (hrec _ _ _ (St.ownSl (enc := cellsChg) (hsz := fun _ => rfl) (l := packL rows) (by decide) hS Mm)) rfl rfl rfl rfl rfl ?_; clear hS; rintro v w rfl hS) | (refine WD.calls hS hM rfl rfl (rpack_c (recordE (packL rows)) _ (by omega)) rfl rfl rfl rfl rfl ?_; clear hS; rintro v w rfl hS) | (refine WD.callL (D := [rfC dk D fq]) hS Pu (.refl _ _) rfl rfl (fun hI => hF _ hI) rfl rfl rfl rfl rfl ?_; rintro v w ⟨rfl, f1, hm⟩; refine ⟨_, hm, fun hS hM => ?_⟩; clear hm)) | refine seqQ_n ?_ | refine seqQ_x ?_ | refine blkQ_hit rfl ?_ | refine rndQ_x ?_)
      have hS := St.objClose (φ := utφ u dk ⟨dir, rows, G⟩) (hS.pulls (D := [.box u 145 [.pointer (some ⟨dk, 0, none⟩), str dir, .pointer (some ⟨Lm, 0, none⟩), .slice A l.length cap], .own (.slice A l.length cap) 159 2 l.length (rts l), rlC Lm dk G fm]) Pu) ⟨Lm, A, cap, l, fm, hR, rfl⟩
      exact fin1r rfl rfl ⟨rfl, _, _, hS.mutLp Pu⟩
theorem walAdd_lenR (G : Lg) (D : Dk) (r : List UInt8) : (walAdd G D r).2.2.items.length ≤ D.items.length + 2 ∧ (walAdd G D r).2.1.recs.length ≤ G.recs.length + 1 := by
  have h1 := append_le D G.p (packE r)
  have h2 := sync_le (D.append G.p (packE r)).2 G.p
  unfold walAdd
  repeat' split
  all_goals (dsimp only; constructor)
  all_goals first
    | omega
    | (show (G.recs ++ [r]).length ≤ _; rw [List.length_append]; exact Nat.le_refl _)
theorem walAdd_p (G : Lg) (D : Dk) (r : List UInt8) : (walAdd G D r).2.1.p = G.p := by
  unfold walAdd
  repeat' split
  all_goals rfl
theorem St.utAt {w0 w : World} {M : List Nat} {H : List Chunk} {Z : List Snap} {u dk Lm cap : Nat} {A : Option Addr} {dir : List UInt8} {l : List Rt} (hS : St w0 M w H Z) (h1 : .box u 145 [.pointer (some ⟨dk, 0, none⟩), str dir, .pointer (some ⟨Lm, 0, none⟩), .slice A l.length cap] ∈ H) (h2 : .own (.slice A l.length cap) 159 2 l.length (rts l) ∈ H) : UtAt u dk Lm A cap dir l w :=
  ⟨hS.holds _ h1, St.ownSl (enc := encRt) (hsz := fun _ => rfl) (l := l) (by decide) hS h2⟩
set_option maxHeartbeats 8000000 in
set_option maxRecDepth 100000 in
theorem rtover_c {u dk Lm cap cap2 : Nat} {A A2 : Option Addr} {dir : List UInt8} {l : List Rt} {m : Rws} (ops : List Chg) {w0 : World} (hR : RepT l m) (hU : UtAt u dk Lm A cap dir l w0) (h2 : SlAt cChg (Old w0) w0 A2 ops) (hl : l.length + ops.length ≤ 268435456) :
    Cal Tryz.prog 103 [.pointer (some ⟨u, 0, none⟩), .slice A2 ops.length cap2] w0 (rallR w0 A cap ops (ops.foldl (fun l o => rtR o l) l)) := by
  refine Cal.mk' (by kernel_rfl) Tryz.func103 rfl rfl fun hS => ?_
  have hb := hU.box
  have hr := hU.row
  repeat' (first | (show WL _ _ _ _ _ _ _; first | refine WL.pure rfl rfl rfl rfl ?_ | refine WL.nil ?_ | (refine WL.load hS rfl rfl (LdOk.old hb Mm rfl) rfl rfl rfl ?_) | (refine WL.callG rfl rfl (rtall_c l m ops hR (hS.slO Mm hr) (hS.slO Mm h2) hl) rfl rfl rfl ?_; rintro v w ⟨hu, B, c, rfl, hc⟩; rcases hc with ⟨h3, rfl, rfl⟩ | ⟨h3, hn⟩ <;> first | (replace hS := hS.new hu hn) | (replace hS := hS.upd0 hu))) | (show WC _ _ _ _ _ _; first | refine WC.seq ?_ | refine WC.region ?_ | refine WC.ret ?_) | refine seqQ_n ?_)
  · exact fin1r rfl rfl ⟨hS.upd, _, _, rfl, .inl ⟨h3, rfl, rfl⟩⟩
  · exact fin1r rfl rfl ⟨hS.upd, _, _, rfl, .inr ⟨h3, hS.newOf Mm⟩⟩
def rtcomR (u dk : Nat) (T : Tb) (D : Dk) (fu fq : List Nat) (w0 : World) (r : Int × Tb × Dk) (v : Value) (w' : World) : Prop :=
  v = .int .i64 r.1 ∧ ∃ fu' fq', MutL w0 w' [utC u dk T fu, rfC dk D fq] [utC u dk r.2.1 fu', rfC dk r.2.2 fq']
set_option maxHeartbeats 32000000 in
set_option maxRecDepth 100000 in
theorem rtcommit_c {u dk cap2 : Nat} {A2 : Option Addr} {D : Dk} {T : Tb} {fu fq : List Nat} (ops : List Chg) {w0 : World} (hi : InL w0 [utC u dk T fu, rfC dk D fq]) (h2 : SlAt cChg (fun b => b < w0.heap.size ∧ b ∉ fps [utC u dk T fu, rfC dk D fq]) w0 A2 ops)
    (hl : T.dir.length ≤ 1099511000) (hlg : T.log.p.length ≤ 1099511620) (hno : D.Sm 549755813888) (hit : D.items.length ≤ 900000) (hr : (recordE ops).length ≤ 1073741824) (hr2 : (recordE (packL (applyE T.rows ops))).length ≤ 549755813888)
    (hn : T.rows.length ≤ 1000000) (hn2 : ops.length ≤ 1000) (hn3 : T.log.recs.length ≤ 1000000) :
    Cal Tryz.prog 43 [.pointer (some ⟨u, 0, none⟩), .slice A2 ops.length cap2] w0 (rtcomR u dk T D fu fq w0 (tabCommit T D ops)) := by
  refine Cal.mkL hi (by kernel_rfl) Tryz.func43 rfl rfl fun hS => ?_
  rcases hops : ops with _ | ⟨o, ops1⟩
  · subst hops
    have hu : tabCommit T D [] = (0, T, D) := by unfold tabCommit; rw [if_pos rfl]
    rw [hu]
    repeat' (first | (show WL _ _ _ _ _ _ _; first | refine WL.pure rfl rfl rfl rfl ?_ | refine WL.nil ?_) | (show WC _ _ _ _ _ _; first | refine WC.seq ?_ | refine WC.region ?_ | refine WC.ret ?_ | refine WC.condT rfl (by decide) ?_) | refine seqQ_n ?_ | refine seqQ_r ?_)
    exact fin1r rfl rfl ⟨rfl, _, _, hS.mutLp Pu⟩
  rw [← hops]
  have hne : ops ≠ [] := by rw [hops]; simp
  have hpos : 0 < ops.length := List.length_pos_iff.2 hne
  obtain ⟨_, ⟨Lm, A, cap, l, fm, hR, rfl⟩, hfp, hS⟩ := St.objOpen hS
  obtain ⟨dir, rows, G⟩ := T
  replace hS : St w0 _ w0 [.box u 145 [.pointer (some ⟨dk, 0, none⟩), str dir, .pointer (some ⟨Lm, 0, none⟩), .slice A l.length cap], .own (.slice A l.length cap) 159 2 l.length (rts l), rlC Lm dk G fm, rfC dk D fq] _ := hS
  dsimp only at hl hlg hr2 hn hn3 hR
  have hln : l.length ≤ 1000000 := by rw [hR.len]; exact hn
  have hRa := hR.all ops
  have hlen := rtall_len ops rows hR
  have hat := hno.at_ G.p
  have hadd := fun (w : World) (hI : InL w [rlC Lm dk G fm, rfC dk D fq]) e G' D' (hu : walAdd G D (recordE ops) = (e, G', D')) => rladd_c (recordE ops) hI hu (by omega) (by omega) hr (by omega) (by omega)
  have hwn := walAdd_lenR G D (recordE ops)
  have hws : (walAdd G D (recordE ops)).2.2.Sm 1099511627776 := hno.walAdd (by omega)
  have hwp := walAdd_p G D (recordE ops)
  have hu : tabCommit ⟨dir, rows, G⟩ D ops = if (walAdd G D (recordE ops)).1 ≠ 0 then ((walAdd G D (recordE ops)).1, ⟨dir, rows, (walAdd G D (recordE ops)).2.1⟩, (walAdd G D (recordE ops)).2.2)
      else if 16 ≤ (walAdd G D (recordE ops)).2.1.recs.length then tabPack ⟨dir, applyE rows ops, (walAdd G D (recordE ops)).2.1⟩ (walAdd G D (recordE ops)).2.2
      else (0, ⟨dir, applyE rows ops, (walAdd G D (recordE ops)).2.1⟩, (walAdd G D (recordE ops)).2.2) := by
    unfold tabCommit
    rw [if_neg hne]
  rw [hu]
  rcases hwa : walAdd G D (recordE ops) with ⟨e1, G1, D1⟩
  rw [hwa] at hwn hws hwp
  dsimp only at hwn hws hwp ⊢
  have hadd := fun (w : World) (hI : InL w [rlC Lm dk G fm, rfC dk D fq]) => hadd w hI e1 G1 D1 hwa
  have hrec := fun (w : World) (h : SlAt cChg (Old w) w A2 ops) => rrecord_c ops (cap := cap2) h (by omega) (by omega)
  generalize recordE ops = rc at *
  clear hwa hu
  by_cases he : e1 = 0
  · rw [if_neg (fun hh => hh he)]
    subst he
    have hal : (applyE rows ops).length ≤ rows.length + ops.length := by rw [← hRa.len, ← hR.len]; exact hlen
    have hsl := fun (w : World) (B : Option Addr) (c : Nat) (h1 : SlAt cRt (Old w) w B l) (h3 : SlAt cChg (Old w) w A2 ops) => rtall_c l rows ops (cap := c) (cap2 := cap2) hR h1 h3 (by omega)
    by_cases h16 : 16 ≤ G1.recs.length
    · rw [if_pos h16]
      rcases hpk : tabPack ⟨dir, applyE rows ops, G1⟩ D1 with ⟨e3, T3, D3⟩
      have hP := fun (f1 f2 : List Nat) (w : World) (hI : InL w [utC u dk ⟨dir, applyE rows ops, G1⟩ f1, rfC dk D1 f2]) => rtpack_c hI hpk hl (by show G1.p.length ≤ _; rw [hwp]; exact hlg) hws (by omega) hr2 (by show (applyE rows ops).length ≤ _; omega)
      repeat' (first | (show WL _ _ _ _ _ _ _; first | refine WL.pure rfl rfl rfl rfl ?_ | refine WL.nil ?_ | refine WL.load hS rfl rfl (LdOk.box Mm rfl) rfl rfl rfl ?_ | (refine WL.callG rfl rfl (hsl _ _ _ (St.ownSl (enc := encRt) (hsz := fun _ => rfl) (l := l) (by decide) hS Mm) (hS.slO Mm h2)) rfl rfl rfl ?_; rintro v w ⟨hu, B, c, rfl, hc⟩; rcases hc with ⟨h3, h4, h5⟩ | ⟨h3, hn⟩; exact absurd h3 hne; replace hS := hS.new hu hn; clear hu hn h3; obtain ⟨_, ⟨A6, c6, rfl⟩, hfp6, hS⟩ := St.objOpen (φ := rlφ Lm dk G1) (hS.pull Pl1); dsimp only [List.cons_append, List.nil_append] at hS) | (have hS := St.objClose (φ := rlφ Lm dk G1) (hS.pulls (D := [.box Lm 60 [.pointer (some ⟨dk, 0, none⟩), str G1.p, .slice A6 G1.recs.length c6, .bool G1.dmg], .own (.slice A6 G1.recs.length c6) 9 1 G1.recs.length (strs G1.recs)]) Pu) ⟨A6, c6, rfl⟩; have hS := St.objClose (φ := utφ u dk ⟨dir, applyE rows ops, G1⟩) (hS.pulls (D := [.box u 145 [.pointer (some ⟨dk, 0, none⟩), str dir, .pointer (some ⟨Lm, 0, none⟩), .slice B (ops.foldl (fun l o => rtR o l) l).length c], .own (.slice B (ops.foldl (fun l o => rtR o l) l).length c) 159 2 (ops.foldl (fun l o => rtR o l) l).length (rts (ops.foldl (fun l o => rtR o l) l)), rlC Lm dk G1 _]) Pu) ⟨Lm, B, c, _, _, hRa, rfl⟩; refine WL.callL (D := [utC u dk ⟨dir, applyE rows ops, G1⟩ _, rfC dk D1 _]) hS Pu rfl rfl (fun hI => hP _ _ _ hI) rfl rfl rfl ?_; rintro v w ⟨rfl, f7, f8, hm⟩ hS; replace hS := hS _ hm; clear hm) | (refine WL.store hS rfl rfl rfl Sb rfl rfl rfl ?_; intro w hS)) | (show WC _ _ _ _ _ _; first | refine WC.seq ?_ | refine WC.region ?_ | refine WC.skip ?_ | refine WC.ret ?_ | (show WC _ _ (Code.region _ (List.toArray [_, _, _, _, _, _, _, _]) true) _ _ _; refine WC.drawL [rlC Lm dk G fm, rfC dk D fq] hS Pu [0,1,2,3,4,7] [0,1,2,3,4,5,6,7] (by kernel_rfl) (by kernel_rfl) ?_; clear hS; intro w hS hM) | refine WC.condF rfl (by decide) ?_ | refine WC.condT rfl (decide_eq_true (by first | with_reducible assumption | omega)) ?_ | refine WC.condF rfl (decide_eq_false (by first | with_reducible assumption | omega)) ?_) | (show WD _ _ _ _ _ _ _ _ _; first | refine WD.pure rfl rfl rfl rfl rfl ?_ | refine WD.nil ?_ | refine WD.load rfl rfl (LdOk.box Mm rfl) rfl rfl rfl rfl ?_ | (refine WD.calls hS hM rfl rfl (hrec _ (hS.slO Mm h2)) rfl rfl rfl rfl rfl ?_; clear hS; rintro v w rfl hS) | (refine WD.callL (D := [rlC Lm dk G fm, rfC dk D fq]) hS Pu (.refl _ _) rfl rfl (fun hI => hadd _ hI) rfl rfl rfl rfl rfl ?_; rintro v w ⟨rfl, f1, f2, hm⟩; refine ⟨_, hm, fun hS hM => ?_⟩; clear hm)) | refine seqQ_n ?_ | refine seqQ_r ?_)
      exact fin1r rfl rfl ⟨rfl, _, _, hS.mutLp Pu⟩
    · rw [if_neg h16]
      repeat' (first | (show WL _ _ _ _ _ _ _; first | refine WL.pure rfl rfl rfl rfl ?_ | refine WL.nil ?_ | refine WL.load hS rfl rfl (LdOk.box Mm rfl) rfl rfl rfl ?_ | (refine WL.callG rfl rfl (hsl _ _ _ (St.ownSl (enc := encRt) (hsz := fun _ => rfl) (l := l) (by decide) hS Mm) (hS.slO Mm h2)) rfl rfl rfl ?_; rintro v w ⟨hu, B, c, rfl, hc⟩; rcases hc with ⟨h3, h4, h5⟩ | ⟨h3, hn⟩; exact absurd h3 hne; replace hS := hS.new hu hn; clear hu hn h3; obtain ⟨_, ⟨A6, c6, rfl⟩, hfp6, hS⟩ := St.objOpen (φ := rlφ Lm dk G1) (hS.pull Pl1); dsimp only [List.cons_append, List.nil_append] at hS) | (refine WL.store hS rfl rfl rfl Sb rfl rfl rfl ?_; intro w hS)) | (show WC _ _ _ _ _ _; first | refine WC.seq ?_ | refine WC.region ?_ | refine WC.skip ?_ | refine WC.ret ?_ | (show WC _ _ (Code.region _ (List.toArray [_, _, _, _, _, _, _, _]) true) _ _ _; refine WC.drawL [rlC Lm dk G fm, rfC dk D fq] hS Pu [0,1,2,3,4,7] [0,1,2,3,4,5,6,7] (by kernel_rfl) (by kernel_rfl) ?_; clear hS; intro w hS hM) | refine WC.condF rfl (by decide) ?_ | refine WC.condF rfl (decide_eq_false (by first | with_reducible assumption | omega)) ?_) | (show WD _ _ _ _ _ _ _ _ _; first | refine WD.pure rfl rfl rfl rfl rfl ?_ | refine WD.nil ?_ | refine WD.load rfl rfl (LdOk.box Mm rfl) rfl rfl rfl rfl ?_ | (refine WD.calls hS hM rfl rfl (hrec _ (hS.slO Mm h2)) rfl rfl rfl rfl rfl ?_; clear hS; rintro v w rfl hS) | (refine WD.callL (D := [rlC Lm dk G fm, rfC dk D fq]) hS Pu (.refl _ _) rfl rfl (fun hI => hadd _ hI) rfl rfl rfl rfl rfl ?_; rintro v w ⟨rfl, f1, f2, hm⟩; refine ⟨_, hm, fun hS hM => ?_⟩; clear hm)) | refine seqQ_n ?_)
      have hS := St.objClose (φ := rlφ Lm dk G1) (hS.pulls (D := [.box Lm 60 [.pointer (some ⟨dk, 0, none⟩), str G1.p, .slice A6 G1.recs.length c6, .bool G1.dmg], .own (.slice A6 G1.recs.length c6) 9 1 G1.recs.length (strs G1.recs)]) Pu) ⟨A6, c6, rfl⟩
      have hS := St.objClose (φ := utφ u dk ⟨dir, applyE rows ops, G1⟩) (hS.pulls (D := [.box u 145 [.pointer (some ⟨dk, 0, none⟩), str dir, .pointer (some ⟨Lm, 0, none⟩), .slice B (ops.foldl (fun l o => rtR o l) l).length c], .own (.slice B (ops.foldl (fun l o => rtR o l) l).length c) 159 2 (ops.foldl (fun l o => rtR o l) l).length (rts (ops.foldl (fun l o => rtR o l) l)), rlC Lm dk G1 _]) Pu) ⟨Lm, B, c, _, _, hRa, rfl⟩
      exact fin1r rfl rfl ⟨rfl, _, _, hS.mutLp Pu⟩
  · rw [if_pos he]
    repeat' (first | (show WL _ _ _ _ _ _ _; first | refine WL.pure rfl rfl rfl rfl ?_ | refine WL.nil ?_) | (show WC _ _ _ _ _ _; first | refine WC.seq ?_ | refine WC.region ?_ | refine WC.skip ?_ | refine WC.ret ?_ | (show WC _ _ (Code.region _ (List.toArray [_, _, _, _, _, _, _, _]) true) _ _ _; refine WC.drawL [rlC Lm dk G fm, rfC dk D fq] hS Pu [0,1,2,3,4,7] [0,1,2,3,4,5,6,7] (by kernel_rfl) (by kernel_rfl) ?_; clear hS; intro w hS hM) | refine WC.condT rfl (decide_eq_true (by first | with_reducible assumption | omega)) ?_ | refine WC.condF rfl (decide_eq_false (by first | with_reducible assumption | omega)) ?_) | (show WD _ _ _ _ _ _ _ _ _; first | refine WD.pure rfl rfl rfl rfl rfl ?_ | refine WD.nil ?_ | refine WD.load rfl rfl (LdOk.box Mm rfl) rfl rfl rfl rfl ?_ | (refine WD.calls hS hM rfl rfl (hrec _ (hS.slO Mm h2)) rfl rfl rfl rfl rfl ?_; clear hS; rintro v w rfl hS) | (refine WD.callL (D := [rlC Lm dk G fm, rfC dk D fq]) hS Pu (.refl _ _) rfl rfl (fun hI => hadd _ hI) rfl rfl rfl rfl rfl ?_; rintro v w ⟨rfl, f1, f2, hm⟩; refine ⟨_, hm, fun hS hM => ?_⟩; clear hm)) | refine seqQ_n ?_ | refine seqQ_r ?_)
    have hS := St.objClose (φ := utφ u dk ⟨dir, rows, G1⟩) (hS.pulls (D := [.box u 145 [.pointer (some ⟨dk, 0, none⟩), str dir, .pointer (some ⟨Lm, 0, none⟩), .slice A l.length cap], .own (.slice A l.length cap) 159 2 l.length (rts l), rlC Lm dk G1 f1]) Pu) ⟨Lm, A, cap, l, f1, hR, rfl⟩
    exact fin1r rfl rfl ⟨rfl, _, _, hS.mutLp Pu⟩
end Go.Proofs.YtccfiohagbneaaaGreatDoor

/- What is proved: what opening the reference's table answers. Conditions: a disk without limits, of bounded size. -/
namespace Go.Proofs.YtccfiohagbneaaaGreatDoor
open Go Go.J Go.RowKit
def rtopenR (dk : Nat) (D : Dk) (fq : List Nat) (w0 : World) (r : Int × Option Tb × Dk) (v : Value) (w' : World) : Prop :=
  match r with
  | (e, none, D') => v = .tuple #[.pointer none, .int .i64 e] ∧ ∃ fq', MutL w0 w' [rfC dk D fq] [rfC dk D' fq']
  | (e, some T, D') => ∃ u fu fq', v = .tuple #[.pointer (some ⟨u, 0, none⟩), .int .i64 e] ∧ MutL w0 w' [rfC dk D fq] [utC u dk T fu, rfC dk D' fq']
theorem mkdir_le (D : Dk) (p : List UInt8) : (D.mkdir p).2.items.length ≤ D.items.length + 1 := by
  have hs := step_items D
  unfold Dk.mkdir
  repeat' split
  all_goals first
    | exact Nat.le_succ _
    | (show D.step.items.length ≤ _; rw [hs]; omega)
    | (have h := mset_leT D.step.items p { It0 with dir := true }; rw [hs] at h; exact (by rw [← hs] at h ⊢; exact h))
set_option maxHeartbeats 32000000 in
set_option maxRecDepth 100000 in
theorem rtopen_c {dk : Nat} {D : Dk} {fq : List Nat} (dir : List UInt8) {w0 : World} (hi : InL w0 [rfC dk D fq]) (hl : dir.length ≤ 1099511000) (hno : D.Sm 1099511627776) (hit : D.items.length ≤ 900000)
    (hbase : (opsE (readE ((tabMk D dir).2.read (baseP dir)).1).1).1.length ≤ 10000000)
    (hlog : ∀ e G D', walOpen (tabMk D dir).2 (logP dir) = (e, some G, D') → G.recs.length ≤ 1000 ∧ ∀ r ∈ G.recs, r.length ≤ 1099511627776 ∧ (opsE r).1.length ≤ 100000) :
    Cal Tryz.prog 37 [.pointer (some ⟨dk, 0, none⟩), str dir] w0 (rtopenR dk D fq w0 (tabOpen D dir)) := by
  refine Cal.mkL hi (by kernel_rfl) Tryz.func37 rfl rfl fun hS => ?_
  have k5 : ([47, 98, 97, 115, 101] : List UInt8).length = 5 := rfl
  have k4 : ([47, 108, 111, 103] : List UInt8).length = 4 := rfl
  have hbp : dir ++ [47, 98, 97, 115, 101] = baseP dir := rfl
  have hlp : dir ++ [47, 108, 111, 103] = logP dir := rfl
  have hbl : (baseP dir).length = dir.length + 5 := by rw [← hbp, List.length_append]; rfl
  have hll : (logP dir).length = dir.length + 4 := by rw [← hlp, List.length_append]; rfl
  have hno1 := tabMk_sm hno dir
  have hit1 : (tabMk D dir).2.items.length ≤ 900001 := by
    unfold tabMk
    split
    · have := mkdir_le D dir; omega
    · show D.items.length ≤ _; omega
  unfold tabOpen
  rcases hmk : tabMk D dir with ⟨e1, D1⟩
  rw [hmk] at hno1 hit1 hlog hbase
  dsimp only at hno1 hit1 hlog hbase ⊢
  generalize hRES : (if e1 ≠ 0 then (e1, none, D1) else if (tabBase D1 dir).1 ≠ 0 then ((tabBase D1 dir).1, none, D1) else tabLog dir (tabBase D1 dir).2 (walOpen D1 (logP dir))) = RES
  have hS := hS.nilRow 159 2
  have hkc := fun (E : Dk) (p : List UInt8) (w : World) (h : RfIs dk E w) (hE : E.items.length ≤ 1048576) => rfkindI_c p h hE
  have hrc := fun (p : List UInt8) (w : World) (h : RfIs dk D1 w) => rfreadI_c p h (by omega)
  repeat' (first | (show WL _ _ _ _ _ _ _; first | refine WL.pure rfl rfl rfl rfl ?_ | refine WL.nil ?_ | (refine WL.box hS rfl rfl rfl rfl rfl ?_; intro w b hS) | refine WL.build rfl rfl rfl rfl rfl ?_) | (show WC _ _ _ _ _ _; first | (show WC _ _ (Code.seq (Code.seq (Code.region 2 _ _) _) _) _ _ _; refine WC.cutS (σ := List Nat) [0, 1, 6] (fun _ => []) (fun f1 w => e1 = 0 ∧ St w0 (fps [rfC dk D fq]) w [.box b 145 [.pointer (some ⟨dk, 0, none⟩), str dir, .pointer none, .slice none 0 0], .own (.slice none 0 0) 159 2 0 [], rfC dk D1 f1] (ZL w0 [rfC dk D fq])) ?_ ?_) | refine WC.seq ?_ | refine WC.region ?_) | refine seqQ_n ?_)
  · -- the folder
    unfold tabMk at hmk
    by_cases hk : D.kind dir = 0
    · rw [if_pos hk] at hmk
      by_cases he : e1 = 0
      · subst he
        clear hRES hlog hbase hno1
        repeat' (first | (show WL _ _ _ _ _ _ _; first | refine WL.pure rfl rfl rfl rfl ?_ | refine WL.nil ?_ | (refine WL.calls hS rfl rfl (hkc D dir _ (St.rfIs hS Pu) (by omega)) rfl rfl rfl ?_; rintro v w rfl hS; rw [hk]) | (refine WL.callL (D := [rfC dk D fq]) hS Pu rfl rfl (fun hI => rfmkdir_c dir hI (by omega) (by omega)) rfl rfl rfl ?_; rintro v w ⟨rfl, f1, hm⟩ hS; rw [hmk] at hm ⊢; replace hS := hS _ hm; clear hm)) | (show WC _ _ _ _ _ _; first | refine WC.seq ?_ | refine WC.region ?_ | refine WC.skip ?_ | refine WC.condT rfl (by decide) ?_ | refine WC.condF rfl (decide_eq_false (by first | with_reducible assumption | omega)) ?_) | refine seqQ_n ?_)
        exact endQ_n _ ⟨rfl, hS.droplast2 Pu⟩ trivial ⟨rfl, rfl, rfl, trivial⟩
      · rw [if_pos he] at hRES
        subst hRES
        clear hlog hbase hno1
        repeat' (first | (show WL _ _ _ _ _ _ _; first | refine WL.pure rfl rfl rfl rfl ?_ | refine WL.nil ?_ | (refine WL.calls hS rfl rfl (hkc D dir _ (St.rfIs hS Pu) (by omega)) rfl rfl rfl ?_; rintro v w rfl hS; rw [hk]) | (refine WL.callL (D := [rfC dk D fq]) hS Pu rfl rfl (fun hI => rfmkdir_c dir hI (by omega) (by omega)) rfl rfl rfl ?_; rintro v w ⟨rfl, f1, hm⟩ hS; rw [hmk] at hm ⊢; replace hS := hS _ hm; clear hm)) | (show WC _ _ _ _ _ _; first | refine WC.seq ?_ | refine WC.region ?_ | refine WC.ret ?_ | refine WC.condT rfl (by decide) ?_ | refine WC.condT rfl (decide_eq_true (by first | with_reducible assumption | omega)) ?_) | refine seqQ_n ?_ | refine endQ_r ?_)
        exact fin2r rfl rfl rfl ⟨rfl, _, hS.mutLp Pu⟩
    · rw [if_neg hk] at hmk
      cases hmk
      clear hRES hlog hbase hno1
      have hk' : ¬ D.kind dir = 0 := hk
      generalize hkv : D.kind dir = kv at *
      repeat' (first | (show WL _ _ _ _ _ _ _; first | refine WL.pure rfl rfl rfl rfl ?_ | refine WL.nil ?_ | (refine WL.calls hS rfl rfl (hkc D dir _ (St.rfIs hS Pu) (by omega)) rfl rfl rfl ?_; rintro v w rfl hS; rw [hkv])) | (show WC _ _ _ _ _ _; first | refine WC.skip ?_ | refine WC.condF rfl (decide_eq_false (by first | with_reducible assumption | omega)) ?_) | refine seqQ_n ?_)
      exact endQ_n _ ⟨rfl, hS.droplast2 Pu⟩ trivial ⟨rfl, rfl, rfl, trivial⟩
  · rintro f1 g w ⟨rfl, hS⟩
    clear hmk
    rw [if_neg (fun h => h rfl)] at hRES
    obtain ⟨u, hub⟩ : ∃ u, u = b := ⟨_, rfl⟩
    subst hub
    show WC _ _ _ (lf _ [] _ _) _ _
    rcases hbs : tabBase D1 dir with ⟨e2, rows⟩
    rw [hbs] at hRES
    dsimp only at hRES
    have hrl := read_len hno1 (baseP dir)
    refine WC.cutS (σ := Option Addr × Nat × List Rt) [0, 1, 6] (fun _ => []) (fun (A, cap, l) w => (e2 = 0 ∧ RepT l rows ∧ l.length ≤ 10000000) ∧ St w0 (fps [rfC dk D fq]) w [.box u 145 [.pointer (some ⟨dk, 0, none⟩), str dir, .pointer none, .slice A l.length cap], .own (.slice A l.length cap) 159 2 l.length (rts l), rfC dk D1 f1] (ZL w0 [rfC dk D fq])) ?_ ?_
    · -- the base
      unfold tabBase at hbs
      clear hlog
      have hkn := kind_ne D1 (baseP dir)
      by_cases hk : D1.kind (baseP dir) = 0
      · rw [if_pos hk] at hbs
        cases hbs
        clear hRES hkn
        repeat' (first | (show WL _ _ _ _ _ _ _; first | refine WL.pure rfl rfl rfl rfl ?_ | refine WL.nil ?_ | (refine WL.cat rfl rfl rfl (by omega) rfl rfl rfl ?_; rw [hbp]) | (refine WL.calls hS rfl rfl (hkc D1 (baseP dir) _ (St.rfIs hS Pu) (by omega)) rfl rfl rfl ?_; rintro v w rfl hS; rw [hk])) | (show WC _ _ _ _ _ _; first | refine WC.seq ?_ | refine WC.region ?_ | refine WC.skip ?_ | refine WC.condF rfl (by decide) ?_) | refine seqQ_n ?_)
        exact endQ_n (none, 0, []) ⟨⟨rfl, RepT.nil, Nat.zero_le _⟩, hS.droplast2 Pu⟩ trivial ⟨rfl, rfl, rfl, trivial⟩
      · rw [if_neg hk] at hbs
        obtain ⟨kv, hkv, hkv0⟩ : ∃ kv, D1.kind (baseP dir) = kv ∧ kv ≠ 0 := ⟨_, rfl, hk⟩
        clear hkn hk
        unfold tabLoad at hbs
        have hrb := hrc (baseP dir)
        rcases hrd : D1.read (baseP dir) with ⟨s, er⟩
        rw [hrd] at hbs hrb hbase hrl
        dsimp only at hbs hrb hbase hrl
        have hfr := fun (w : World) => rfrd_c s w hrl
        have hre := readE_len s
        rcases hrr : readE s with ⟨r, n, ef⟩
        rw [hrr] at hbs hfr hbase hre
        unfold frV0 at hfr
        dsimp only at hbs hfr hbase hre
        have hop := fun (w : World) => rops_c r w (by omega)
        rcases hoo : opsE r with ⟨ops, eo⟩
        rw [hoo] at hbs hop hbase
        unfold opsR at hop
        dsimp only at hbs hop hbase
        have hlt2 : n < s.length ∨ ¬ n < s.length := Classical.em _
        by_cases h1 : er = 0
        · subst h1
          rw [if_neg (fun hh => hh rfl)] at hbs
          by_cases h2 : ef = 0
          · subst h2
            rw [if_neg (fun hh => hh rfl)] at hbs
            rcases hlt2 with h3 | h3
            · rw [if_pos h3] at hbs
              cases hbs
              rw [if_pos (by decide)] at hRES
              subst hRES
              repeat' (first | (show WL _ _ _ _ _ _ _; first | refine WL.pure rfl rfl rfl rfl ?_ | refine WL.nil ?_ | (refine WL.cat rfl rfl rfl (by omega) rfl rfl rfl ?_; rw [hbp]) | (refine WL.calls hS rfl rfl (hkc D1 (baseP dir) _ (St.rfIs hS Pu) (by omega)) rfl rfl rfl ?_; rintro v w rfl hS; rw [hkv]) | (refine WL.calls hS rfl rfl (hrb _ (St.rfIs hS Pu)) rfl rfl rfl ?_; rintro v w rfl hS) | (refine WL.calls hS rfl rfl (hfr _) rfl rfl rfl ?_; rintro v w rfl hS)) | (show WC _ _ _ _ _ _; first | refine WC.seq ?_ | refine WC.region ?_ | refine WC.skip ?_ | refine WC.ret ?_ | refine WC.condF rfl (by decide) ?_ | refine WC.condT rfl (decide_eq_true (by first | with_reducible assumption | omega)) ?_) | refine seqQ_n ?_ | refine seqQ_r ?_ | refine endQ_r ?_)
              exact fin2r rfl rfl rfl ⟨rfl, _, hS.mutLp Pu⟩
            · rw [if_neg h3] at hbs
              by_cases h4 : eo = 0
              · subst h4
                rw [if_neg (fun hh => hh rfl)] at hbs
                cases hbs
                clear hRES
                have hRa := RepT.nil.all ops
                have hla := rtall_len ops [] RepT.nil
                rw [List.length_nil, Nat.zero_add] at hla
                have hal := fun (w : World) (B : Option Addr) (c : Nat) (h3 : SlAt cChg (Old w) w B ops) => rtall_c [] [] ops (A := none) (cap := 0) (cap2 := c) RepT.nil (fun k hk => absurd hk (Nat.not_lt_zero _)) h3 (by show 0 + _ ≤ _; omega)
                repeat' (first | (show WL _ _ _ _ _ _ _; first | refine WL.pure rfl rfl rfl rfl ?_ | refine WL.nil ?_ | refine WL.load hS rfl rfl (LdOk.box Mm rfl) rfl rfl rfl ?_ | (refine WL.cat rfl rfl rfl (by omega) rfl rfl rfl ?_; rw [hbp]) | (refine WL.calls hS rfl rfl (hkc D1 (baseP dir) _ (St.rfIs hS Pu) (by omega)) rfl rfl rfl ?_; rintro v w rfl hS; rw [hkv]) | (refine WL.calls hS rfl rfl (hrb _ (St.rfIs hS Pu)) rfl rfl rfl ?_; rintro v w rfl hS) | (refine WL.calls hS rfl rfl (hfr _) rfl rfl rfl ?_; rintro v w rfl hS) | (refine WL.callG rfl rfl (hop _) rfl rfl rfl ?_; rintro v w ⟨hup, A2, cap2, rfl, hnw⟩; replace hS := hS.new hup hnw; clear hup hnw) | (refine WL.callG rfl rfl (hal _ _ _ (St.ownSl (enc := cellsChg) (hsz := fun _ => rfl) (l := ops) (by decide) hS Mm)) rfl rfl rfl ?_; rintro v w ⟨hu, B, c, rfl, hc⟩; rcases hc with ⟨h3, rfl, rfl⟩ | ⟨h3, hn⟩ <;> first | (replace hS := hS.new hu hn; clear hn hu) | (replace hS := hS.upd0 hu; clear hu)) | (refine WL.store hS rfl rfl rfl Sb rfl rfl rfl ?_; intro w hS)) | (show WC _ _ _ _ _ _; first | refine WC.seq ?_ | refine WC.region ?_ | refine WC.skip ?_ | refine WC.condF rfl (by decide) ?_ | refine WC.condT rfl (decide_eq_true (by first | with_reducible assumption | omega)) ?_ | refine WC.condF rfl (decide_eq_false (by first | with_reducible assumption | omega)) ?_) | refine seqQ_n ?_)
                · subst h3
                  exact endQ_n (none, 0, []) ⟨⟨rfl, hRa, Nat.zero_le _⟩, hS.droplast2 Pu⟩ trivial ⟨rfl, rfl, rfl, trivial⟩
                · exact endQ_n (B, c, _) ⟨⟨rfl, hRa, by omega⟩, hS.droplast2 Pu⟩ trivial ⟨rfl, rfl, rfl, trivial⟩
              · rw [if_pos h4] at hbs
                cases hbs
                rw [if_pos h4] at hRES
                subst hRES
                repeat' (first | (show WL _ _ _ _ _ _ _; first | refine WL.pure rfl rfl rfl rfl ?_ | refine WL.nil ?_ | (refine WL.cat rfl rfl rfl (by omega) rfl rfl rfl ?_; rw [hbp]) | (refine WL.calls hS rfl rfl (hkc D1 (baseP dir) _ (St.rfIs hS Pu) (by omega)) rfl rfl rfl ?_; rintro v w rfl hS; rw [hkv]) | (refine WL.calls hS rfl rfl (hrb _ (St.rfIs hS Pu)) rfl rfl rfl ?_; rintro v w rfl hS) | (refine WL.calls hS rfl rfl (hfr _) rfl rfl rfl ?_; rintro v w rfl hS) | (refine WL.callG rfl rfl (hop _) rfl rfl rfl ?_; rintro v w ⟨hup, A2, cap2, rfl, hnw⟩; replace hS := hS.new hup hnw; clear hup hnw)) | (show WC _ _ _ _ _ _; first | refine WC.seq ?_ | refine WC.region ?_ | refine WC.skip ?_ | refine WC.ret ?_ | refine WC.condF rfl (by decide) ?_ | refine WC.condT rfl (decide_eq_true (by first | with_reducible assumption | omega)) ?_ | refine WC.condF rfl (decide_eq_false (by first | with_reducible assumption | omega)) ?_) | refine seqQ_n ?_ | refine seqQ_r ?_ | refine endQ_r ?_)
                exact fin2r rfl rfl rfl ⟨rfl, _, hS.mutLp Pu⟩
          · rw [if_pos h2] at hbs
            cases hbs
            rw [if_pos h2] at hRES
            subst hRES
            repeat' (first | (show WL _ _ _ _ _ _ _; first | refine WL.pure rfl rfl rfl rfl ?_ | refine WL.nil ?_ | (refine WL.cat rfl rfl rfl (by omega) rfl rfl rfl ?_; rw [hbp]) | (refine WL.calls hS rfl rfl (hkc D1 (baseP dir) _ (St.rfIs hS Pu) (by omega)) rfl rfl rfl ?_; rintro v w rfl hS; rw [hkv]) | (refine WL.calls hS rfl rfl (hrb _ (St.rfIs hS Pu)) rfl rfl rfl ?_; rintro v w rfl hS) | (refine WL.calls hS rfl rfl (hfr _) rfl rfl rfl ?_; rintro v w rfl hS)) | (show WC _ _ _ _ _ _; first | refine WC.seq ?_ | refine WC.region ?_ | refine WC.skip ?_ | refine WC.ret ?_ | refine WC.condF rfl (by decide) ?_ | refine WC.condT rfl (decide_eq_true (by first | with_reducible assumption | omega)) ?_) | refine seqQ_n ?_ | refine seqQ_r ?_ | refine endQ_r ?_)
            exact fin2r rfl rfl rfl ⟨rfl, _, hS.mutLp Pu⟩
        · rw [if_pos h1] at hbs
          cases hbs
          rw [if_pos h1] at hRES
          subst hRES
          repeat' (first | (show WL _ _ _ _ _ _ _; first | refine WL.pure rfl rfl rfl rfl ?_ | refine WL.nil ?_ | (refine WL.cat rfl rfl rfl (by omega) rfl rfl rfl ?_; rw [hbp]) | (refine WL.calls hS rfl rfl (hkc D1 (baseP dir) _ (St.rfIs hS Pu) (by omega)) rfl rfl rfl ?_; rintro v w rfl hS; rw [hkv]) | (refine WL.calls hS rfl rfl (hrb _ (St.rfIs hS Pu)) rfl rfl rfl ?_; rintro v w rfl hS)) | (show WC _ _ _ _ _ _; first | refine WC.seq ?_ | refine WC.region ?_ | refine WC.ret ?_ | refine WC.condT rfl (decide_eq_true (by first | with_reducible assumption | omega)) ?_) | refine seqQ_n ?_ | refine seqQ_r ?_ | refine endQ_r ?_)
          exact fin2r rfl rfl rfl ⟨rfl, _, hS.mutLp Pu⟩
    · rintro ⟨A, cap, l⟩ g2 w ⟨⟨rfl, hR, hll2⟩, hS⟩
      rw [if_neg (fun h => h rfl)] at hRES
      show WC _ _ _ (lf _ [] _ _) _ _
      clear hbs hbase hrl
      have hop := fun (w0 : World) (hi : InL w0 [rfC dk D1 f1]) => rlopen_c (fq := f1) (logP dir) hi (by omega) hno1 (by omega)
      rcases hwo : walOpen D1 (logP dir) with ⟨e, G, D2⟩
      have hwe := walOpen_e D1 (logP dir)
      rw [hwo] at hop hRES hwe
      rcases G with _ | G
      · have hop : ∀ w0, InL w0 [rfC dk D1 f1] → Cal Tryz.prog 14 [.pointer (some ⟨dk, 0, none⟩), str (logP dir)] w0 (fun v w' => v = .tuple #[.pointer none, .int .i64 e] ∧ ∃ fq', MutL w0 w' [rfC dk D1 f1] [rfC dk D2 fq']) := hop
        replace hRES : (e, none, D2) = RES := hRES
        subst hRES
        have hwe : e ≠ 0 := hwe.1 rfl
        clear hlog
        repeat' (first | (show WL _ _ _ _ _ _ _; first | refine WL.pure rfl rfl rfl rfl ?_ | refine WL.nil ?_ | (refine WL.cat rfl rfl rfl (by omega) rfl rfl rfl ?_; rw [hlp]) | (refine WL.callL (D := [rfC dk D1 f1]) hS Pu rfl rfl (fun hI => hop _ hI) rfl rfl rfl ?_; rintro v w ⟨rfl, f2, hm⟩ hS; replace hS := hS _ hm; clear hm)) | (show WC _ _ _ _ _ _; first | refine WC.seq ?_ | refine WC.region ?_ | refine WC.ret ?_ | refine WC.condT rfl (decide_eq_true (by first | with_reducible assumption | omega)) ?_) | refine seqQ_n ?_ | refine seqQ_r ?_)
        exact fin2r rfl rfl rfl ⟨rfl, _, hS.mutLp Pu⟩
      · have hop : ∀ w0, InL w0 [rfC dk D1 f1] → Cal Tryz.prog 14 [.pointer (some ⟨dk, 0, none⟩), str (logP dir)] w0 (fun v w' => ∃ L fp fq', v = .tuple #[.pointer (some ⟨L, 0, none⟩), .int .i64 e] ∧ MutL w0 w' [rfC dk D1 f1] [rlC L dk G fp, rfC dk D2 fq']) := hop
        replace hRES : (if (replay rows G.recs).1 ≠ 0 then ((replay rows G.recs).1, none, D2) else (0, some ⟨dir, (replay rows G.recs).2, G⟩, D2)) = RES := hRES
        obtain rfl : e = 0 := hwe.2 G rfl
        obtain ⟨hn, hrl⟩ := hlog 0 G D2 hwo
        clear hlog hwe
        repeat' (first | (show WL _ _ _ _ _ _ _; first | refine WL.pure rfl rfl rfl rfl ?_ | refine WL.nil ?_ | (refine WL.cat rfl rfl rfl (by omega) rfl rfl rfl ?_; rw [hlp]) | (refine WL.callL (D := [rfC dk D1 f1]) hS Pu rfl rfl (fun hI => hop _ hI) rfl rfl rfl ?_; rintro v w ⟨Lm, fm, f2, rfl, hm⟩ hS; replace hS := hS _ hm; clear hm; obtain ⟨_, ⟨A6, c6, rfl⟩, hfp6, hS⟩ := St.objOpen (φ := rlφ Lm dk G) (fp := fm) (hS.pull Pl1); dsimp only [List.cons_append, List.nil_append] at hS) | (refine WL.store hS rfl rfl rfl Sb rfl rfl rfl ?_; intro w hS)) | (show WC _ _ _ _ _ _; first | refine WC.seq ?_ | refine WC.region ?_ | refine WC.block ?_ | refine WC.skip ?_ | refine WC.condF rfl (by decide) ?_) | refine seqQ_n ?_)
        refine WC.loop (σ := Nat × Option Addr × Nat × List Rt × Rws) [6, 13] (fun (k, A, cap, l, rs) => [(15, .int .i64 (k : Int))])
          (fun (k, A, cap, l, rs) w => (k ≤ G.recs.length ∧ RepT l rs ∧ l.length ≤ 10000000 + 100000 * k ∧ replay rs (G.recs.drop k) = replay rows G.recs) ∧ St w0 (fps [rfC dk D fq]) w [.box u 145 [.pointer (some ⟨dk, 0, none⟩), str dir, .pointer (some ⟨Lm, 0, none⟩), .slice A l.length cap], .own (.slice A l.length cap) 159 2 l.length (rts l), .box Lm 60 [.pointer (some ⟨dk, 0, none⟩), str G.p, .slice A6 G.recs.length c6, .bool G.dmg], .own (.slice A6 G.recs.length c6) 9 1 G.recs.length (strs G.recs), rfC dk D2 f2] (ZL w0 [rfC dk D fq]))
          (fun (k, _) => G.recs.length - k) (0, A, cap, l, rows) ⟨⟨Nat.zero_le _, hR, by omega, rfl⟩, hS.droplast2 Pu⟩ ⟨rfl, trivial⟩ ?_
        clear hS hR hll2
        rintro ⟨k, A, cap, l, rs⟩ g w ⟨⟨hk, hR, hll2, hrs⟩, hS⟩
        show WC _ _ _ (lf _ [(15, .int .i64 (k : Int))] _ _) _ _
        by_cases hlt : k < G.recs.length
        · have hx : (strs G.recs)[k * 1]? = some (str G.recs[k]) := by rw [Nat.mul_one]; exact strs_at hlt
          obtain ⟨hxl, hxo⟩ := hrl _ (List.getElem_mem hlt)
          rw [List.drop_eq_getElem_cons hlt] at hrs
          generalize G.recs[k] = r at *
          obtain ⟨rg, ro, rfl⟩ := hS.own_addr (A := A6) (n := G.recs.length) Mm (by omega)
          have hop2 := fun w0 => rops_c r w0 hxl
          rw [replay_cons] at hrs
          rcases ho : opsE r with ⟨ops, eo⟩
          rw [ho] at hop2 hrs hxo
          unfold opsR at hop2
          dsimp only at hop2 hrs hxo
          by_cases heo : eo = 0
          · subst heo
            rw [if_neg (fun h => h rfl)] at hrs
            have hRa := hR.all ops
            have hla := rtall_len ops rs hR
            have hal := fun (w : World) (B : Option Addr) (c : Nat) (h1 : SlAt cRt (Old w) w A l) (h3 : SlAt cChg (Old w) w B ops) => rtall_c l rs ops (cap := cap) (cap2 := c) hR h1 h3 (by omega)
            repeat' (first | (show WL _ _ _ _ _ _ _; first | refine WL.pure rfl rfl rfl rfl ?_ | refine WL.nil ?_ | refine WL.load hS rfl rfl (LdOk.box Mm rfl) rfl rfl rfl ?_ | refine WL.add rfl rfl rfl (by omega) rfl rfl rfl ?_ | (refine WL.load hS rfl rfl (LdOk.ownAt (off := k * 1) Mm rfl ⟨_, rfl⟩ hx rfl) rfl rfl rfl ?_) | (refine WL.callG rfl rfl (hop2 _) rfl rfl rfl ?_; rintro v w ⟨hup, A2, cap2, rfl, hnw⟩; replace hS := hS.new hup hnw; clear hup hnw) | (refine WL.callG rfl rfl (hal _ _ _ (St.ownSl (enc := encRt) (hsz := fun _ => rfl) (l := l) (by decide) hS Mm) (St.ownSl (enc := cellsChg) (hsz := fun _ => rfl) (l := ops) (by decide) hS Mm)) rfl rfl rfl ?_; rintro v w ⟨hu, B, c, rfl, hc⟩; rcases hc with ⟨h3, rfl, rfl⟩ | ⟨h3, hn⟩ <;> first | (replace hS := hS.new hu hn; clear hn hu) | (replace hS := hS.upd0 hu; clear hu)) | (refine WL.store hS rfl rfl rfl Sb rfl rfl rfl ?_; intro w hS) | refine WL.index rfl rfl rfl rfl (by first | with_reducible assumption | omega) rfl rfl rfl rfl ?_) | (show WC _ _ _ _ _ _; first | refine WC.seq ?_ | refine WC.region ?_ | refine WC.block ?_ | refine WC.skip ?_ | refine WC.condF rfl (by decide) ?_ | refine WC.condT rfl (decide_eq_true (by first | with_reducible assumption | omega)) ?_) | refine seqQ_n ?_ | refine blkQ_n ?_)
            · subst h3
              exact rndQ_n (k + 1, _, _, l, rs) ⟨⟨by omega, hR, by omega, hrs⟩, hS.droplast2 Pu⟩ (by show G.recs.length - (k + 1) < G.recs.length - k; omega) ⟨vint (by omega), trivial⟩ ⟨rfl, rfl, trivial⟩
            · exact rndQ_n (k + 1, B, c, _, applyE rs ops) ⟨⟨by omega, hRa, by omega, hrs⟩, hS.droplast2 Pu⟩ (by show G.recs.length - (k + 1) < G.recs.length - k; omega) ⟨vint (by omega), trivial⟩ ⟨rfl, rfl, trivial⟩
          · rw [if_pos heo] at hrs
            rw [← hrs, if_pos heo] at hRES
            dsimp only at hRES
            subst hRES
            repeat' (first | (show WL _ _ _ _ _ _ _; first | refine WL.pure rfl rfl rfl rfl ?_ | refine WL.nil ?_ | refine WL.load hS rfl rfl (LdOk.box Mm rfl) rfl rfl rfl ?_ | (refine WL.load hS rfl rfl (LdOk.ownAt (off := k * 1) Mm rfl ⟨_, rfl⟩ hx rfl) rfl rfl rfl ?_) | (refine WL.callG rfl rfl (hop2 _) rfl rfl rfl ?_; rintro v w ⟨hup, A2, cap2, rfl, hnw⟩; replace hS := hS.new hup hnw; clear hup hnw) | refine WL.index rfl rfl rfl rfl (by first | with_reducible assumption | omega) rfl rfl rfl rfl ?_) | (show WC _ _ _ _ _ _; first | refine WC.seq ?_ | refine WC.region ?_ | refine WC.block ?_ | refine WC.skip ?_ | refine WC.ret ?_ | refine WC.condT rfl (decide_eq_true (by first | with_reducible assumption | omega)) ?_) | refine seqQ_n ?_ | refine seqQ_r ?_ | refine blkQ_r ?_ | refine rndQ_r ?_)
            exact fin2r rfl rfl rfl ⟨rfl, _, hS.mutLp Pu⟩
        · have hke : k = G.recs.length := by omega
          subst hke
          rw [List.drop_length] at hrs
          have hrs : (0, rs) = replay rows G.recs := hrs
          rw [← hrs, if_neg (fun h => h rfl)] at hRES
          dsimp only at hRES
          subst hRES
          repeat' (first | (show WL _ _ _ _ _ _ _; first | refine WL.pure rfl rfl rfl rfl ?_ | refine WL.nil ?_ | refine WL.load hS rfl rfl (LdOk.box Mm rfl) rfl rfl rfl ?_) | (show WC _ _ _ _ _ _; first | refine WC.seq ?_ | refine WC.region ?_ | refine WC.exit ?_ | refine WC.ret ?_ | refine WC.condF rfl (decide_eq_false (by first | with_reducible assumption | omega)) ?_) | refine seqQ_n ?_ | refine seqQ_x ?_ | refine blkQ_hit rfl ?_ | refine rndQ_x ?_)
          have hS := St.objClose (φ := rlφ Lm dk G) (hS.pulls (D := [.box Lm 60 [.pointer (some ⟨dk, 0, none⟩), str G.p, .slice A6 G.recs.length c6, .bool G.dmg], .own (.slice A6 G.recs.length c6) 9 1 G.recs.length (strs G.recs)]) Pu) ⟨A6, c6, rfl⟩
          have hS := St.objClose (φ := utφ u dk ⟨dir, rs, G⟩) (hS.pulls (D := [.box u 145 [.pointer (some ⟨dk, 0, none⟩), str dir, .pointer (some ⟨Lm, 0, none⟩), .slice A l.length cap], .own (.slice A l.length cap) 159 2 l.length (rts l), rlC Lm dk G _]) Pu) ⟨Lm, A, cap, l, _, hR, rfl⟩
          exact fin2r rfl rfl rfl ⟨_, _, _, rfl, hS.mutLp Pu⟩
end Go.Proofs.YtccfiohagbneaaaGreatDoor

/- What is proved: what a batch would make of a table is what the changes make of its rows; the law's 'seen' answers true. Conditions: rows of bounded number. -/
namespace Go.Proofs.YtccfiohagbneaaaGreatDoor
open Go Go.J Go.RowKit
theorem mem_keysM {β : Type} {m : List (List UInt8 × β)} {k : List UInt8} : k ∈ m.map Prod.fst ↔ (mget m k).isSome = true := by
  rw [← Option.ne_none_iff_isSome, Ne, mget_none, Classical.not_not]
theorem mget_applyB : ∀ {m : Bch} {rows : Rws}, BkOk m → (rows.map Prod.fst).Nodup → ∀ k, mget (applyE rows (m.map Prod.snd)) k = match mget m k with
    | some o => if o.gone then none else some o.val
    | none => mget rows k
  | [], rows, _, _, k => rfl
  | (k0, o) :: m, rows, h, hn, k => by
    have hnn := List.nodup_cons.1 h.1
    have ho : o.key = k0 := h.2 (k0, o) (List.mem_cons_self ..)
    have hm : BkOk m := ⟨hnn.2, fun p hp => h.2 p (List.mem_cons_of_mem _ hp)⟩
    rw [List.map_cons, applyE_cons]
    have hn' : ((if o.gone then mdel rows o.key else mset rows o.key o.val).map Prod.fst).Nodup := by
      split
      · exact mdel_nodup hn _
      · exact mset_nodup hn _ _
    rw [mget_applyB hm hn', show mget ((k0, o) :: m) k = if k = k0 then some o else mget m k from rfl]
    by_cases e : k = k0
    · rw [if_pos e]
      have : mget m k = none := mget_none.2 (by rw [e]; exact hnn.1)
      rw [this]
      dsimp only
      rw [ho, ← e]
      cases o.gone with
      | true => simp only [if_true]; rw [mget_del rows hn, if_pos rfl]
      | false => simp only [Bool.false_eq_true, if_false]; rw [mget_set, if_pos rfl]
    · rw [if_neg e]
      cases mget m k with
      | some x => rfl
      | none =>
        dsimp only
        rw [ho]
        split
        · rw [mget_del rows hn, if_neg e]
        · rw [mget_set, if_neg e]
theorem bget_eq {m : Bch} {rows : Rws} (h : BkOk m) (hg : ∀ p ∈ m, p.2.gone = true → p.2.val = []) (hn : (rows.map Prod.fst).Nodup) (k : List UInt8) : bgetE rows m k = getE (applyE rows (m.map Prod.snd)) k := by
  unfold bgetE getE
  rw [mget_applyB h hn]
  cases hx : mget m k with
  | none => rfl
  | some o =>
    have := hg _ (mget_mem hx)
    dsimp only at this ⊢
    cases hgo : o.gone with
    | true => rw [this hgo]; rfl
    | false => rfl
theorem keysP_nodup {rows : Rws} (hn : (rows.map Prod.fst).Nodup) (p : List UInt8) : (keysP rows p).Nodup := by
  unfold keysP sortL
  exact (List.mergeSort_perm _ _).nodup_iff.2 (hn.filter _)
theorem mem_keysP {rows : Rws} {p k : List UInt8} : k ∈ keysP rows p ↔ (mget rows k).isSome = true ∧ begB p k = true := by
  unfold keysP sortL
  rw [(List.mergeSort_perm _ _).mem_iff, List.mem_filter, mem_keysM]
theorem bkeys_eq {m : Bch} {rows : Rws} (h : BkOk m) (hn : (rows.map Prod.fst).Nodup) (hn' : ((applyE rows (m.map Prod.snd)).map Prod.fst).Nodup) (p : List UInt8) : bkeysP rows m p = keysP (applyE rows (m.map Prod.snd)) p := by
  have h0 : keysP (applyE rows (m.map Prod.snd)) p = sortL (((applyE rows (m.map Prod.snd)).map Prod.fst).filter (begB p)) := rfl
  unfold bkeysP
  rw [h0]
  refine sort_perm ((List.perm_ext_iff_of_nodup ?_ (hn'.filter _)).2 fun k => ?_)
  · refine List.nodup_append.2 ⟨(keysP_nodup hn p).filter _, h.1.sublist (List.filter_sublist.map _), fun a ha b hb e => ?_⟩
    subst e
    have h1 := (mem_keysP.1 (List.mem_filter.1 ha).1).1
    obtain ⟨x, hx, rfl⟩ := List.mem_map.1 hb
    have h2 := (List.mem_filter.1 hx).2
    unfold newB at h2
    rw [h1] at h2
    simp at h2
  · rw [List.mem_append, List.mem_filter, mem_keysP, List.mem_filter, mem_keysM (m := applyE rows (m.map Prod.snd)), mget_applyB h hn]
    constructor
    · rintro (⟨⟨h1, h2⟩, h3⟩ | h1)
      · refine ⟨?_, h2⟩
        unfold oldB at h3
        cases hx : mget m k with
        | none => exact h1
        | some o => rw [hx] at h3; dsimp only at h3 ⊢; simp at h3; rw [h3]; rfl
      · obtain ⟨x, hx, rfl⟩ := List.mem_map.1 h1
        obtain ⟨hx, h2⟩ := List.mem_filter.1 hx
        unfold newB at h2
        simp only [Bool.and_eq_true, Bool.not_eq_true'] at h2
        have : mget m x.1 = some x.2 := mget_it' h.1 hx
        rw [this]
        dsimp only
        rw [h2.1.2]
        exact ⟨rfl, h2.2⟩
    · rintro ⟨h1, h2⟩
      cases hx : mget m k with
      | none =>
        rw [hx] at h1
        exact .inl ⟨⟨h1, h2⟩, by unfold oldB; rw [hx]; rfl⟩
      | some o =>
        rw [hx] at h1
        dsimp only at h1
        have hg : o.gone = false := by
          cases hgo : o.gone with
          | false => rfl
          | true => rw [hgo] at h1; simp at h1
        by_cases hr : (mget rows k).isSome = true
        · exact .inl ⟨⟨hr, h2⟩, by unfold oldB; rw [hx]; simp [hg]⟩
        · refine .inr (List.mem_map.2 ⟨(k, o), List.mem_filter.2 ⟨mget_mem hx, ?_⟩, rfl⟩)
          unfold newB
          simp only [hg, h2]
          simp at hr
          rw [hr]; rfl
where mget_it' {β : Type} : ∀ {m : List (List UInt8 × β)} {x : List UInt8 × β}, (m.map Prod.fst).Nodup → x ∈ m → mget m x.1 = some x.2
  | (k2, v2) :: m, x, hn, h => by
    rw [List.map_cons, List.nodup_cons] at hn
    rw [show mget ((k2, v2) :: m) x.1 = if x.1 = k2 then some v2 else mget m x.1 from rfl]
    rcases List.mem_cons.1 h with e | h
    · cases e; rw [if_pos rfl]
    · rw [if_neg, mget_it' hn.2 h]
      intro e
      exact hn.1 (List.mem_map.2 ⟨_, h, e⟩)
theorem markS3 {e : TypeId} (r1 r2 r3 : Rw) (l1 l2 l3 : List (List UInt8)) (h1 : l1.length = r1.n) (h2 : l2.length = r2.n) (h3 : l3.length = r3.n) : MarkIs encT e 1 mT [r1, r2, r3] [ownRw encT e 1 r1 l1, ownRw encT e 1 r2 l2, ownRw encT e 1 r3 l3] 0 := by
  refine ⟨rfl, fun j hj => ?_⟩
  match j, hj with
  | 0, _ => exact ⟨l1, h1, rfl, fun h => absurd h (Nat.not_lt_zero _)⟩
  | 1, _ => exact ⟨l2, h2, rfl, fun h => absurd h (Nat.not_lt_zero _)⟩
  | 2, _ => exact ⟨l3, h3, rfl, fun h => absurd h (Nat.not_lt_zero _)⟩
set_option maxHeartbeats 32000000 in
set_option maxRecDepth 100000 in
theorem seen_c {B Tp q u dk cap2 : Nat} {A2 : Option Addr} {T : Tb} {m : Bch} {fb fp fu : List Nat} (key : List UInt8) {w0 : World} (hi : InL w0 [bchC B (some ⟨Tp, 0, none⟩) m fb, tabC Tp q T fp, utC u dk T fu]) (h2 : SlAt cChg (fun b => b < w0.heap.size ∧ b ∉ fps [bchC B (some ⟨Tp, 0, none⟩) m fb, tabC Tp q T fp, utC u dk T fu]) w0 A2 (m.map Prod.snd))
    (hok : BkOk m) (hg : ∀ p ∈ m, p.2.gone = true → p.2.val = []) (hn : T.rows.length ≤ 900000) (hm : m.length ≤ 1000) (hnd : (T.rows.map Prod.fst).Nodup) :
    Cal Tryz.prog 46 [.pointer (some ⟨Tp, 0, none⟩), .pointer (some ⟨B, 0, none⟩), .pointer (some ⟨u, 0, none⟩), .slice A2 (m.map Prod.snd).length cap2, str key] w0
      (fun v w' => v = .bool true ∧ ∃ fu', MutL w0 w' [bchC B (some ⟨Tp, 0, none⟩) m fb, tabC Tp q T fp, utC u dk T fu] [bchC B (some ⟨Tp, 0, none⟩) m fb, tabC Tp q T fp, utC u dk T fu']) := by
  refine Cal.mkL hi (by kernel_rfl) Tryz.func46 rfl rfl fun hS => ?_
  replace hS := hS.pull (c := utC u dk T fu) Pl1
  obtain ⟨_, ⟨Lm, A, cap, l, fm, hR, rfl⟩, hfu, hS⟩ := St.objOpen hS
  dsimp only [List.cons_append, List.nil_append] at hS
  obtain ⟨dir, rows, G⟩ := T
  dsimp only at hS hn hnd hR
  have hRa := hR.all (m.map Prod.snd)
  have hll := hR.len
  have hla := rtall_len (m.map Prod.snd) rows hR
  rw [List.length_map] at hla
  have hov := fun (w : World) (hU : UtAt u dk Lm A cap dir l w) (h2 : SlAt cChg (Old w) w A2 (m.map Prod.snd)) => rtover_c (cap2 := cap2) (m.map Prod.snd) hR hU h2 (by rw [List.length_map]; omega)
  have hg1 := fun (w : World) (A : Option Addr) (cap : Nat) (h : SlAt cRt (Old w) w A l) => rtget_c l key (cap := cap) h (by omega)
  have hg2 := fun (w : World) (A : Option Addr) (cap : Nat) (h : SlAt cRt (Old w) w A ((m.map Prod.snd).foldl (fun l o => rtR o l) l)) => rtget_c _ key (cap := cap) h (by omega)
  have hk1 := fun (w : World) (A : Option Addr) (cap : Nat) (h : SlAt cRt (Old w) w A l) => rtkeys_c l key (cap := cap) h (by omega)
  have hk2 := fun (w : World) (A : Option Addr) (cap : Nat) (h : SlAt cRt (Old w) w A ((m.map Prod.snd).foldl (fun l o => rtR o l) l)) => rtkeys_c _ key (cap := cap) h (by omega)
  have hbg := fun (w : World) (hI : InL w [bchC B (some ⟨Tp, 0, none⟩) m fb, tabC Tp q ⟨dir, rows, G⟩ fp]) => bget_c key hI
  have hbk := fun (w : World) (hI : InL w [bchC B (some ⟨Tp, 0, none⟩) m fb, tabC Tp q ⟨dir, rows, G⟩ fp]) => bkeys_c key hI (by show rows.length ≤ _; omega) (by omega)
  have ht1 := fun (w : World) (hI : InL w [tabC Tp q ⟨dir, rows, G⟩ fp]) => tkeys_c key hI (by show rows.length ≤ _; omega)
  have e1 : getE rows key = (((findG Rt.key l key).map Rt.val).getD [], (findG Rt.key l key).isSome) := hR.getE key
  have e2 := hRa.getE key
  rw [← bget_eq hok hg hnd] at e2
  have e3 := hRa.keysP key
  rw [← bkeys_eq hok hnd hRa.nd] at e3
  rw [hR.keysP] at hk1
  rw [e3] at hk2
  have htg := fun (w : World) (hI : InL w [tabC Tp q ⟨dir, rows, G⟩ fp]) => tget_c key hI
  dsimp only at htg hbg hbk ht1
  rw [e1] at htg
  rw [e2] at hbg
  generalize findG Rt.key l key = x1 at *
  generalize findG Rt.key ((m.map Prod.snd).foldl (fun l o => rtR o l) l) key = x2 at *
  have hkl : (keysP rows key).length ≤ 1000000 := by
    have : (keysP rows key).length ≤ rows.length := by
      unfold keysP
      rw [sortL_len]
      exact Nat.le_trans (List.length_filter_le _ _) (by rw [List.length_map]; exact Nat.le_refl _)
    omega
  have hkl2 : (bkeysP rows m key).length ≤ 1000000 := by
    rw [← e3]
    refine Nat.le_trans (List.length_filter_le _ _) ?_
    rw [List.length_map]; omega
  generalize keysP rows key = K at *
  generalize bkeysP rows m key = K2 at *
  have ht2 := ht1
  have hs1 := fun {A B : Option Addr} {ca cb : Nat} (w : World) (h1 : SlAt cStr (Old w) w A K) (h2 : SlAt cStr (Old w) w B K) => same_c K K (ca := ca) (cb := cb) h1 h2 (by omega)
  have hs2 := fun {A B : Option Addr} {ca cb : Nat} (w : World) (h1 : SlAt cStr (Old w) w A K2) (h2 : SlAt cStr (Old w) w B K2) => same_c K2 K2 (ca := ca) (cb := cb) h1 h2 (by omega)
  rw [decide_eq_true rfl] at hs1 hs2
  have hap : ∀ {ob c1 c3 c5 : Nat} {A1 A3 A5 : Option Addr} {w0 : World} (hI : InL w0 [.own (.slice (some ⟨ob, 0, none⟩) 3 3) 56 1 3 [.slice A1 K.length c1, .slice A3 K2.length c3, .slice A5 K.length c5], .own (.slice A1 K.length c1) 9 1 K.length (strs K), .own (.slice A3 K2.length c3) 9 1 K2.length (strs K2), .own (.slice A5 K.length c5) 9 1 K.length (strs K)]), Cal Tryz.prog 33 [.slice (some ⟨ob, 0, none⟩) 3 3] w0 (fun v w' => v = .bool true ∧ MutL w0 w' [.own (.slice (some ⟨ob, 0, none⟩) 3 3) 56 1 3 [.slice A1 K.length c1, .slice A3 K2.length c3, .slice A5 K.length c5], .own (.slice A1 K.length c1) 9 1 K.length (strs K), .own (.slice A3 K2.length c3) 9 1 K2.length (strs K2), .own (.slice A5 K.length c5) 9 1 K.length (strs K)] []) := fun {ob c1 c3 c5 A1 A3 A5 w0} hI =>
    rapartS_c [⟨A1, K.length, c1⟩, ⟨A3, K2.length, c3⟩, ⟨A5, K.length, c5⟩] [ownRw encT 9 1 ⟨A1, K.length, c1⟩ K, ownRw encT 9 1 ⟨A3, K2.length, c3⟩ K2, ownRw encT 9 1 ⟨A5, K.length, c5⟩ K] hI (markS3 _ _ _ _ _ _ rfl rfl rfl) (show (3 : Nat) ≤ 1000 by decide) (fun r hr => by simp only [List.mem_cons, List.not_mem_nil, or_false] at hr; rcases hr with rfl | rfl | rfl <;> (dsimp only; omega))
  obtain ⟨L, hL⟩ : ∃ L, L = (m.map Prod.snd).foldl (fun l o => rtR o l) l := ⟨_, rfl⟩
  rw [← hL] at hov hg2 hk2 hRa hla
  clear e1 e2 e3
  by_cases hme : m = []
  · subst hme
    have hL : L = l := hL
    subst hL
    have hov : ∀ w, UtAt u dk Lm A cap dir L w → SlAt cChg (Old w) w A2 [] → Cal Tryz.prog 103 [.pointer (some ⟨u, 0, none⟩), .slice A2 0 cap2] w (fun v w' => Upd [] w w' ∧ v = .slice A L.length cap) := fun w hU h2 => (hov w hU h2).mono fun v w' ⟨hu, B, c, hv, hc⟩ => ⟨hu, by
      rcases hc with ⟨_, rfl, rfl⟩ | ⟨h3, _⟩
      · exact hv
      · exact absurd rfl h3⟩
    repeat' (first | (show WL _ _ _ _ _ _ _; first | refine WL.pure rfl rfl rfl rfl ?_ | refine WL.nil ?_ | refine WL.load hS rfl rfl (LdOk.box Mm rfl) rfl rfl rfl ?_ | (refine WL.callL (D := [tabC Tp q ⟨dir, rows, G⟩ fp]) hS Pu rfl rfl (fun hI => htg _ hI) rfl rfl rfl ?_; rintro v w ⟨rfl, hm⟩ hS; replace hS := hS _ hm; clear hm) | (refine WL.callL (D := [bchC B (some ⟨Tp, 0, none⟩) _ fb, tabC Tp q ⟨dir, rows, G⟩ fp]) hS Pu rfl rfl (fun hI => hbg _ hI) rfl rfl rfl ?_; rintro v w ⟨rfl, hm⟩ hS; replace hS := hS _ hm; clear hm) | (refine WL.calls hS rfl rfl (hov _ (St.utAt hS Mm Mm) (hS.slO Mm h2)) rfl rfl rfl ?_; rintro v w rfl hS) | (refine WL.calls hS rfl rfl (hg1 _ _ _ (St.ownSl (enc := encRt) (hsz := fun _ => rfl) (l := L) (by decide) hS Mm)) rfl rfl rfl ?_; clear hg1; rintro v w rfl hS) | (refine WL.calls hS rfl rfl (hg2 _ _ _ (St.ownSl (enc := encRt) (hsz := fun _ => rfl) (l := L) (by decide) hS Mm)) rfl rfl rfl ?_; clear hg2; rintro v w rfl hS) | (refine WL.callL (D := [tabC Tp q ⟨dir, rows, G⟩ fp]) hS Pu rfl rfl (fun hI => ht1 _ hI) rfl rfl rfl ?_; clear ht1; rintro v w ⟨A1, c1, rfl, hm⟩ hS; replace hS := hS _ hm; clear hm) | (refine WL.callL (D := [tabC Tp q ⟨dir, rows, G⟩ fp]) hS Pu rfl rfl (fun hI => ht2 _ hI) rfl rfl rfl ?_; clear ht2; rintro v w ⟨A5, c5, rfl, hm⟩ hS; replace hS := hS _ hm; clear hm) | (refine WL.callL (D := [bchC B (some ⟨Tp, 0, none⟩) _ fb, tabC Tp q ⟨dir, rows, G⟩ fp]) hS Pu rfl rfl (fun hI => hbk _ hI) rfl rfl rfl ?_; rintro v w ⟨A3, c3, rfl, hm⟩ hS; replace hS := hS _ hm; clear hm) | (refine WL.callG rfl rfl (hk1 _ _ _ (St.ownSl (enc := encRt) (hsz := fun _ => rfl) (l := L) (by decide) hS Mm)) rfl rfl rfl ?_; clear hk1; rintro v w ⟨hu, A7, c7, rfl, hn7⟩; replace hS := hS.new hu hn7; clear hu hn7) | (refine WL.callG rfl rfl (hk2 _ _ _ (St.ownSl (enc := encRt) (hsz := fun _ => rfl) (l := L) (by decide) hS Mm)) rfl rfl rfl ?_; clear hk2; rintro v w ⟨hu, A7, c7, rfl, hn7⟩; replace hS := hS.new hu hn7; clear hu hn7) | (refine WL.calls hS rfl rfl (hs1 _ (St.ownSl (enc := fun s => [str s]) (hsz := fun _ => rfl) (l := K) (by decide) hS Mm) (St.ownSl (enc := fun s => [str s]) (hsz := fun _ => rfl) (l := K) (by decide) hS Mm)) rfl rfl rfl ?_; rintro v w rfl hS) | (refine WL.calls hS rfl rfl (hs2 _ (St.ownSl (enc := fun s => [str s]) (hsz := fun _ => rfl) (l := K2) (by decide) hS Mm) (St.ownSl (enc := fun s => [str s]) (hsz := fun _ => rfl) (l := K2) (by decide) hS Mm)) rfl rfl rfl ?_; rintro v w rfl hS) | (refine WL.slit (t := 62) hS rfl rfl rfl rfl rfl ?_; intro w ob hS; replace hS := hS.boxRow (n := 3) (size := 1) .here rfl (by decide)) | (refine WL.callL (D := [.own (.slice (some ⟨ob, 0, none⟩) 3 3) 56 1 3 [.slice A1 K.length c1, .slice A3 K2.length c3, .slice A5 K.length c5], .own (.slice A1 K.length c1) 9 1 K.length (strs K), .own (.slice A3 K2.length c3) 9 1 K2.length (strs K2), .own (.slice A5 K.length c5) 9 1 K.length (strs K)]) hS Pu rfl rfl (fun hI => hap hI) rfl rfl rfl ?_; rintro v w ⟨rfl, hm⟩ hS; replace hS := hS _ hm; clear hm) | ((fail_if_success (refine WL.wanted rfl ?_)); refine WL.guard rfl rfl rfl (fun h => ?_) (fun h => ?_) <;> (try simp only [ZZ0, ZZ1, ZZ2, ZZ3, ZZ4, ZZ5, ZZ6, ZZ7, ZZ8, ZZ9, ZZ10, ZZ11, ZZ12, ZZ13, ZZ14, ZZ15] at h) <;> (try (exfalso; first | omega | contradiction)))) | (show WC _ _ _ _ _ _; first | refine WC.seq ?_ | refine WC.region ?_ | refine WC.ret ?_) | refine seqQ_n ?_)
    have hS := St.objClose (φ := utφ u dk ⟨dir, rows, G⟩) (hS.pulls (D := [.box u 145 [.pointer (some ⟨dk, 0, none⟩), str dir, .pointer (some ⟨Lm, 0, none⟩), .slice A L.length cap], .own (.slice A L.length cap) 159 2 L.length (rts L), rlC Lm dk G fm]) Pu) ⟨Lm, A, cap, L, fm, hR, rfl⟩
    exact fin1r rfl rfl ⟨rfl, _, hS.mutLp Pu⟩
  · have hov : ∀ w, UtAt u dk Lm A cap dir l w → SlAt cChg (Old w) w A2 (m.map Prod.snd) → Cal Tryz.prog 103 [.pointer (some ⟨u, 0, none⟩), .slice A2 (m.map Prod.snd).length cap2] w (fun v w' => Upd [] w w' ∧ ∃ B c, v = .slice B L.length c ∧ New w w' (.own (.slice B L.length c) 159 2 L.length (rts L))) := fun w hU h2 => (hov w hU h2).mono fun v w' ⟨hu, B, c, hv, hc⟩ => ⟨hu, B, c, hv, by
      rcases hc with ⟨h3, _⟩ | ⟨_, hn⟩
      · exact absurd (List.map_eq_nil_iff.1 h3) hme
      · exact hn⟩
    clear hL
    repeat' (first | (show WL _ _ _ _ _ _ _; first | refine WL.pure rfl rfl rfl rfl ?_ | refine WL.nil ?_ | refine WL.load hS rfl rfl (LdOk.box Mm rfl) rfl rfl rfl ?_ | (refine WL.callL (D := [tabC Tp q ⟨dir, rows, G⟩ fp]) hS Pu rfl rfl (fun hI => htg _ hI) rfl rfl rfl ?_; rintro v w ⟨rfl, hm⟩ hS; replace hS := hS _ hm; clear hm) | (refine WL.callL (D := [bchC B (some ⟨Tp, 0, none⟩) _ fb, tabC Tp q ⟨dir, rows, G⟩ fp]) hS Pu rfl rfl (fun hI => hbg _ hI) rfl rfl rfl ?_; rintro v w ⟨rfl, hm⟩ hS; replace hS := hS _ hm; clear hm) | (refine WL.callG rfl rfl (hov _ (St.utAt hS Mm Mm) (hS.slO Mm h2)) rfl rfl rfl ?_; rintro v w ⟨hu, A8, c8, rfl, hn8⟩; replace hS := hS.new hu hn8; clear hu hn8) | (refine WL.calls hS rfl rfl (hg1 _ _ _ (St.ownSl (enc := encRt) (hsz := fun _ => rfl) (l := l) (by decide) hS Mm)) rfl rfl rfl ?_; rintro v w rfl hS) | (refine WL.calls hS rfl rfl (hg2 _ _ _ (St.ownSl (enc := encRt) (hsz := fun _ => rfl) (l := L) (by decide) hS Mm)) rfl rfl rfl ?_; rintro v w rfl hS) | (refine WL.callL (D := [tabC Tp q ⟨dir, rows, G⟩ fp]) hS Pu rfl rfl (fun hI => ht1 _ hI) rfl rfl rfl ?_; clear ht1; rintro v w ⟨A1, c1, rfl, hm⟩ hS; replace hS := hS _ hm; clear hm) | (refine WL.callL (D := [tabC Tp q ⟨dir, rows, G⟩ fp]) hS Pu rfl rfl (fun hI => ht2 _ hI) rfl rfl rfl ?_; clear ht2; rintro v w ⟨A5, c5, rfl, hm⟩ hS; replace hS := hS _ hm; clear hm) | (refine WL.callL (D := [bchC B (some ⟨Tp, 0, none⟩) _ fb, tabC Tp q ⟨dir, rows, G⟩ fp]) hS Pu rfl rfl (fun hI => hbk _ hI) rfl rfl rfl ?_; rintro v w ⟨A3, c3, rfl, hm⟩ hS; replace hS := hS _ hm; clear hm) | (refine WL.callG rfl rfl (hk1 _ _ _ (St.ownSl (enc := encRt) (hsz := fun _ => rfl) (l := l) (by decide) hS Mm)) rfl rfl rfl ?_; rintro v w ⟨hu, A7, c7, rfl, hn7⟩; replace hS := hS.new hu hn7; clear hu hn7) | (refine WL.callG rfl rfl (hk2 _ _ _ (St.ownSl (enc := encRt) (hsz := fun _ => rfl) (l := L) (by decide) hS Mm)) rfl rfl rfl ?_; rintro v w ⟨hu, A9, c9, rfl, hn9⟩; replace hS := hS.new hu hn9; clear hu hn9) | (refine WL.calls hS rfl rfl (hs1 _ (St.ownSl (enc := fun s => [str s]) (hsz := fun _ => rfl) (l := K) (by decide) hS Mm) (St.ownSl (enc := fun s => [str s]) (hsz := fun _ => rfl) (l := K) (by decide) hS Mm)) rfl rfl rfl ?_; rintro v w rfl hS) | (refine WL.calls hS rfl rfl (hs2 _ (St.ownSl (enc := fun s => [str s]) (hsz := fun _ => rfl) (l := K2) (by decide) hS Mm) (St.ownSl (enc := fun s => [str s]) (hsz := fun _ => rfl) (l := K2) (by decide) hS Mm)) rfl rfl rfl ?_; rintro v w rfl hS) | (refine WL.slit (t := 62) hS rfl rfl rfl rfl rfl ?_; intro w ob hS; replace hS := hS.boxRow (n := 3) (size := 1) .here rfl (by decide)) | (refine WL.callL (D := [.own (.slice (some ⟨ob, 0, none⟩) 3 3) 56 1 3 [.slice A1 K.length c1, .slice A3 K2.length c3, .slice A5 K.length c5], .own (.slice A1 K.length c1) 9 1 K.length (strs K), .own (.slice A3 K2.length c3) 9 1 K2.length (strs K2), .own (.slice A5 K.length c5) 9 1 K.length (strs K)]) hS Pu rfl rfl (fun hI => hap hI) rfl rfl rfl ?_; rintro v w ⟨rfl, hm⟩ hS; replace hS := hS _ hm; clear hm) | ((fail_if_success (refine WL.wanted rfl ?_)); refine WL.guard rfl rfl rfl (fun h => ?_) (fun h => ?_) <;> (try simp only [ZZ0, ZZ1, ZZ2, ZZ3, ZZ4, ZZ5, ZZ6, ZZ7, ZZ8, ZZ9, ZZ10, ZZ11, ZZ12, ZZ13, ZZ14, ZZ15] at h) <;> (try (exfalso; first | omega | contradiction)))) | (show WC _ _ _ _ _ _; first | refine WC.seq ?_ | refine WC.region ?_ | refine WC.ret ?_) | refine seqQ_n ?_)
    have hS := St.objClose (φ := utφ u dk ⟨dir, rows, G⟩) (hS.pulls (D := [.box u 145 [.pointer (some ⟨dk, 0, none⟩), str dir, .pointer (some ⟨Lm, 0, none⟩), .slice A l.length cap], .own (.slice A l.length cap) 159 2 l.length (rts l), rlC Lm dk G fm]) Pu) ⟨Lm, A, cap, l, fm, hR, rfl⟩
    exact fin1r rfl rfl ⟨rfl, _, hS.mutLp Pu⟩
end Go.Proofs.YtccfiohagbneaaaGreatDoor

/- What is proved: a table over a script: what its disk holds behind each step, wherever the machine stops. Conditions: keys and texts of bounded length in all. -/
namespace Go.Proofs.YtccfiohagbneaaaGreatDoor
open Go Go.J Go.RowKit
def OkO (S : Rws) (o : Chg) : Prop := ∃ s ∈ S, s.1 = o.key ∧ o.val.length ≤ s.2.length
def OkR (S : Rws) (rows : Rws) : Prop := ∀ p ∈ rows, ∃ s ∈ S, s.1 = p.1 ∧ p.2.length ≤ s.2.length
structure OkL (S : Rws) (l : List Chg) : Prop where
  ok : ∀ o ∈ l, OkO S o
  nd : (l.map (·.key)).Nodup
  cl : Clean l
structure Bnd (S : Rws) (k : Nat) (bs : Option (List Chg)) (ls : List (List Chg)) : Prop where
  base : OkL S (bs.getD [])
  logs : ∀ l ∈ ls, OkL S l
  n : ls.length ≤ k
theorem sum_key {α : Type} {ka : α → List UInt8} {wa : α → Nat} {wb : List UInt8 × List UInt8 → Nat} : ∀ (l : List α) (S : Rws), (l.map ka).Nodup → (∀ x ∈ l, ∃ s ∈ S, s.1 = ka x ∧ wa x ≤ wb s) → (l.map wa).sum ≤ (S.map wb).sum
  | [], _, _, _ => Nat.zero_le _
  | x :: l, S, hn, h => by
    obtain ⟨s, hs, h1, h2⟩ := h x (List.mem_cons_self ..)
    rw [List.map_cons, List.nodup_cons] at hn
    have ih := sum_key (wa := wa) (wb := wb) l (S.erase s) hn.2 fun y hy => by
      obtain ⟨t, ht, h3, h4⟩ := h y (List.mem_cons_of_mem _ hy)
      refine ⟨t, (List.mem_erase_of_ne ?_).2 ht, h3, h4⟩
      rintro rfl
      exact hn.1 (by rw [← h1, h3]; exact List.mem_map_of_mem hy)
    have h5 := ((List.perm_cons_erase hs).map wb).sum_nat
    rw [List.map_cons, List.sum_cons] at h5
    rw [List.map_cons, List.sum_cons]
    omega
section
variable {S S' : Rws} {k : Nat} {bs : Option (List Chg)} {ls : List (List Chg)} {l ops : List Chg} {rows : Rws} {D : Dk} {T : Tb}
theorem OkL.sz (h : OkL S l) : szL l ≤ szR S := sum_key l S h.nd fun o ho => by
  obtain ⟨s, hs, h1, h2⟩ := h.ok o ho
  exact ⟨s, hs, h1, by unfold szO; rw [h1]; omega⟩
theorem OkR.sz (h : OkR S rows) (hn : (rows.map Prod.fst).Nodup) : szR rows ≤ szR S := sum_key rows S hn fun p hp => by
  obtain ⟨s, hs, h1, h2⟩ := h p hp
  exact ⟨s, hs, h1, by rw [h1]; omega⟩
theorem OkO.up (h : ∀ s ∈ S, s ∈ S') {o : Chg} (ho : OkO S o) : OkO S' o := by obtain ⟨s, hs, h1⟩ := ho; exact ⟨s, h s hs, h1⟩
theorem OkR.up (h : ∀ s ∈ S, s ∈ S') (ho : OkR S rows) : OkR S' rows := fun p hp => by obtain ⟨s, hs, h1⟩ := ho p hp; exact ⟨s, h s hs, h1⟩
theorem OkL.up (h : ∀ s ∈ S, s ∈ S') (ho : OkL S l) : OkL S' l := ⟨fun o hh => (ho.ok o hh).up h, ho.nd, ho.cl⟩
theorem Bnd.up (h : ∀ s ∈ S, s ∈ S') {k' : Nat} (hk : k ≤ k') (ho : Bnd S k bs ls) : Bnd S' k' bs ls := ⟨ho.base.up h, fun l hl => (ho.logs l hl).up h, Nat.le_trans ho.n hk⟩
theorem OkL.nil : OkL S [] := ⟨fun o h => (by cases h), List.nodup_nil, fun o h => (by cases h)⟩
theorem mset_inP : ∀ {m : Rws} {x v : List UInt8} {p : List UInt8 × List UInt8}, p ∈ mset m x v → p ∈ m ∨ p = (x, v)
  | [], x, v, p, h => .inr (by simpa [mset] using h)
  | (k, u) :: m, x, v, p, h => by
    unfold mset at h
    split at h
    · rename_i e
      rcases List.mem_cons.1 h with h | h
      · exact .inr (by rw [h, e])
      · exact .inl (List.mem_cons_of_mem _ h)
    · rcases List.mem_cons.1 h with h | h
      · exact .inl (by rw [h]; exact List.mem_cons_self ..)
      · rcases mset_inP h with h | h
        · exact .inl (List.mem_cons_of_mem _ h)
        · exact .inr h
theorem OkR.apply : ∀ {ops : List Chg} {rows : Rws}, OkR S rows → (∀ o ∈ ops, OkO S o) → OkR S (applyE rows ops)
  | [], _, h, _ => h
  | o :: ops, rows, h, ho => by
    rw [applyE_cons]
    refine OkR.apply (ops := ops) ?_ fun x hx => ho x (List.mem_cons_of_mem _ hx)
    split
    · exact fun p hp => h p ((mdel_sub _ _).subset hp)
    · intro p hp
      rcases mset_inP hp with h1 | h1
      · exact h p h1
      · rw [h1]; exact ho o (List.mem_cons_self ..)
theorem nodup_apply : ∀ {ops : List Chg} {rows : Rws}, (rows.map Prod.fst).Nodup → ((applyE rows ops).map Prod.fst).Nodup
  | [], _, h => h
  | o :: ops, rows, h => by
    rw [applyE_cons]
    refine nodup_apply (ops := ops) ?_
    split
    · exact mdel_nodup h _
    · exact mset_nodup h _ _
theorem OkR.pack (h : OkR S rows) (hn : (rows.map Prod.fst).Nodup) : OkL S (packL rows) := by
  refine ⟨fun o ho => ?_, ?_, packL_clean rows⟩
  · have := (packL_perm hn).mem_iff.1 ho
    obtain ⟨p, hp, rfl⟩ := List.mem_map.1 this
    exact h p hp
  · rw [packL_keys]
    exact (keysE_perm rows).nodup_iff.2 hn
theorem OkR.nil : OkR S [] := fun p h => by cases h
theorem OkR.fold : ∀ {ls : List (List Chg)} {rows : Rws}, OkR S rows → (∀ l ∈ ls, OkL S l) → OkR S (ls.foldl applyE rows)
  | [], _, h, _ => h
  | l :: ls, rows, h, hl => OkR.fold (ls := ls) (h.apply (hl l (List.mem_cons_self ..)).ok) fun x hx => hl x (List.mem_cons_of_mem _ hx)
theorem Bnd.rowsB (h : Bnd S k bs ls) : OkR S (rowsOf bs ls) := OkR.fold (OkR.nil.apply h.base.ok) h.logs
theorem rec_le (h : OkL S l) (hS : szR S ≤ 1100000) : (recordE l).length ≤ 1100010 ∧ l.length ≤ 34375 := by
  have h1 := h.sz
  have h2 := szL_len l
  have := recordE_len l (smO_of (by omega)) (by omega)
  omega
theorem Bnd.wf (h : Bnd S k bs ls) (hS : szR S ≤ 1100000) (hk : k ≤ 200) : TabW bs ls := by
  refine ⟨?_, fun l hl => (h.logs l hl).cl, fun l hl => ?_, h.base.cl, ?_⟩
  · have h1 := frames_len (ls.map recordE) 1100010 (fun r hr => by
      obtain ⟨l, hl, rfl⟩ := List.mem_map.1 hr
      exact (rec_le (h.logs l hl) hS).1) (by decide)
    have h2 := h.n
    rw [List.length_map] at h1
    have h3 : ls.length * (1100010 + 14) ≤ 200 * (1100010 + 14) := Nat.mul_le_mul_right _ (by omega)
    omega
  · have := (h.logs l hl).sz; omega
  · have := h.base.sz; omega
def JT (S : Rws) (k : Nat) (D : Dk) (T : Tb) : Prop := ∃ bs ls rows, TabC D bs ls ∧ D.down = false ∧ T = ⟨sysP, rows, ⟨sysL, ls.map recordE, false⟩⟩ ∧ (rows.map Prod.fst).Nodup ∧ OkR S rows ∧ Bnd S k bs ls
def RT (S : Rws) (k : Nat) (D : Dk) : Prop := ∃ bs ls, Post D bs ls ∧ D.down = false ∧ Bnd S k bs ls
def CT (S : Rws) (k : Nat) (D : Dk) : Prop := D.down = true ∧ SysC D ∧ ∀ loss, RT S k (D.restart loss)
theorem JT.up (h : ∀ s ∈ S, s ∈ S') {k' : Nat} (hk : k ≤ k') (hj : JT S k D T) : JT S' k' D T := by
  obtain ⟨bs, ls, rows, h1, h2, h3, h4, h5, h6⟩ := hj
  exact ⟨bs, ls, rows, h1, h2, h3, h4, h5.up h, h6.up h hk⟩
theorem JT.re (h : JT S k D T) : RT S k D := by
  obtain ⟨bs, ls, rows, h1, h2, h3, h4, h5, h6⟩ := h
  exact ⟨bs, ls, h1.post, h2, h6⟩
theorem JT.restart (h : JT S k D T) (loss : Int) : RT S k (D.restart loss) := by
  obtain ⟨bs, ls, rows, h1, h2, h3, h4, h5, h6⟩ := h
  obtain ⟨a, b⟩ := h1.post.restart loss
  exact ⟨bs, ls, b, a.up, h6⟩
theorem TabC.armP (h : TabC D bs ls) (n : Int) : TabC (D.arm n) bs ls := ⟨⟨h.c.lim, h.c.nd, h.c.dir, h.c.has, h.c.files, h.c.keys, h.c.kp, h.c.firm⟩, h.log, by have := h.base; cases bs <;> exact this⟩
theorem JT.arm (h : JT S k D T) (n : Int) : JT S k (D.arm n) T := by
  obtain ⟨bs, ls, rows, h1, h2, h3, h4, h5, h6⟩ := h
  exact ⟨bs, ls, rows, h1.armP n, h2, h3, h4, h5, h6⟩
theorem RT.open (h : RT S k D) (hS : szR S ≤ 1100000) (hk : k ≤ 200) : (∃ T D', tabOpen D sysP = (0, some T, D') ∧ JT S k D' T) ∨ ∃ D', tabOpen D sysP = (14, none, D') := by
  obtain ⟨bs, ls, h1, h2, h3⟩ := h
  obtain ⟨D', ⟨h4, h5, h6⟩ | h4⟩ := h1.openT h2 (h3.wf hS hk)
  · exact .inl ⟨_, D', h4, bs, ls, _, h6, h5, rfl, (rowsOf_are bs ls).1, h3.rowsB, h3⟩
  · exact .inr ⟨D', h4⟩
theorem JT.sysC (h : JT S k D T) : SysC D := by obtain ⟨bs, ls, rows, h1, _⟩ := h; exact h1.c
theorem RT.sysC (h : RT S k D) : SysC D := by obtain ⟨bs, ls, h1, _⟩ := h; exact h1.c
theorem SysC.smB (h : SysC D) {B : Nat} (hB : CB ≤ B) : D.Sm B := ⟨h.lim, fun x hx => Nat.le_trans (h.kp x hx).1 hB⟩
theorem SysC.len (h : SysC D) : D.items.length ≤ 5 := by
  have hs : ∀ p ∈ D.items.map Prod.fst, p ∈ [sysP, sysL, sysLT, sysB, sysBT] := fun p hp => by
    obtain ⟨x, hx, rfl⟩ := List.mem_map.1 hp
    rcases h.keys x hx with e | e | e | e | e <;> rw [e] <;> simp
  have := few_lenT h.nd hs
  rw [List.length_map] at this
  exact this
where few_lenT {α : Type} [DecidableEq α] : ∀ {l k : List α}, l.Nodup → (∀ x ∈ l, x ∈ k) → l.length ≤ k.length
  | [], _, _, _ => Nat.zero_le _
  | a :: l, k, hn, h => by
    rw [List.nodup_cons] at hn
    have h1 := few_lenT (l := l) (k := k.erase a) hn.2 fun x hx => by
      rw [List.mem_erase_of_ne]
      · exact h x (List.mem_cons_of_mem _ hx)
      · rintro rfl; exact hn.1 hx
    have h2 := List.length_erase_of_mem (h a (List.mem_cons_self ..))
    have h3 : 0 < k.length := List.length_pos_of_mem (h a (List.mem_cons_self ..))
    rw [List.length_cons]
    omega
theorem may_down {p : List UInt8} {n : Int} (h : D.may p n = 14) : D.down = true := by
  unfold Dk.may at h
  cases hd : D.down with
  | true => rfl
  | false => rw [hd, if_neg (by decide)] at h; split at h <;> (try split at h) <;> omega
theorem stepE_down (h : D.stepE = 14) : D.step.down = true := by
  by_cases ha : D.armed = 0
  · unfold Dk.step; rw [if_pos ha]
  · rw [stepE1 ha] at h; cases h
theorem file_down {p : List UInt8} (h : D.file p = 14) : D.down = true := by
  unfold Dk.file at h
  split at h
  · exact may_down h
  · split at h <;> (try split at h) <;> omega
def Dn (r : Int × Dk) : Prop := r.1 = 14 → r.2.down = true
theorem Dn.no {e : Int} {D : Dk} (h : e ≠ 14) : Dn (e, D) := fun h2 => absurd h2 h
theorem Dn.may (D : Dk) (p : List UInt8) (n : Int) : Dn (D.may p n, D) := may_down
theorem Dn.file (D : Dk) (p : List UInt8) : Dn (D.file p, D) := file_down
theorem Dn.step (D : Dk) : Dn (D.stepE, D.step) := stepE_down
theorem Dn.append (D : Dk) (p s : List UInt8) : Dn (D.append p s) := by
  unfold Dk.append
  repeat' split
  all_goals first | exact Dn.file D p | exact Dn.step D | exact Dn.no (by decide)
theorem Dn.sync (D : Dk) (p : List UInt8) : Dn (D.sync p) := by
  unfold Dk.sync
  repeat' split
  all_goals first | exact Dn.file D p | exact Dn.step D | exact Dn.no (by decide)
theorem Dn.write (D : Dk) (p s : List UInt8) : Dn (D.write p s) := by
  unfold Dk.write
  repeat' split
  all_goals first | exact Dn.may D p 1 | exact Dn.step D | exact Dn.no (by decide)
theorem Dn.rename (D : Dk) (p r : List UInt8) : Dn (D.rename p r) := by
  unfold Dk.rename
  repeat' split
  all_goals first | exact Dn.may D p 1 | exact Dn.may D r 1 | exact Dn.step D | exact Dn.no (by decide)
theorem Dn.fill (D : Dk) (p s : List UInt8) : Dn (D.fill p s) := by
  unfold Dk.fill
  repeat' split
  all_goals first | exact Dn.write _ _ _ | exact Dn.sync _ _ | exact Dn.rename _ _ _
theorem walAdd_down (G : Lg) (D : Dk) (r : List UInt8) : (walAdd G D r).1 = 14 → (walAdd G D r).2.2.down = true := by
  unfold walAdd
  repeat' split
  all_goals first | exact Dn.append _ _ _ | exact Dn.sync _ _ | exact fun h => absurd (show (0 : Int) = 14 from h) (by decide)
theorem tabPack_down (T : Tb) (D : Dk) : (tabPack T D).1 = 14 → (tabPack T D).2.2.down = true := by
  unfold tabPack
  repeat' split
  all_goals exact Dn.fill _ _ _
theorem tabCommit_down (T : Tb) (D : Dk) (ops : List Chg) : (tabCommit T D ops).1 = 14 → (tabCommit T D ops).2.2.down = true := by
  unfold tabCommit
  repeat' split
  all_goals first | exact walAdd_down _ _ _ | exact tabPack_down _ _ | exact fun h => absurd (show (0 : Int) = 14 from h) (by decide)
theorem tabCommit_add {T : Tb} {D : Dk} {ops : List Chg} (hne : ops ≠ []) (h : (tabCommit T D ops).1 = 0) : (walAdd T.log D (recordE ops)).1 = 0 := by
  unfold tabCommit at h
  rw [if_neg hne] at h
  split at h
  · rename_i h2; exact absurd h h2
  · rename_i h2; exact Classical.not_not.1 h2
theorem JT.commit (h : JT S k D T) (ho : OkL S ops) (hne : ops ≠ []) (hS : szR S ≤ 1100000) (hk : k ≤ 190) :
    ∃ e T' D', tabCommit T D ops = (e, T', D') ∧ (e = 0 ∧ (walAdd T.log D (recordE ops)).1 = 0 ∧ JT S (k + 1) D' T' ∨ e = 14 ∧ CT S (k + 1) D') := by
  obtain ⟨bs, ls, rows, h1, h2, rfl, h4, h5, h6⟩ := h
  have hw := h6.wf hS (by omega)
  have hr := rec_le ho hS
  have hra := h5.apply ho.ok
  have hnd : ((applyE rows ops).map Prod.fst).Nodup := nodup_apply h4
  have hpk := hra.pack hnd
  have hrp := rec_le hpk hS
  have hf := hw.tot
  have hp1 := packE_len (recordE ops)
  have hn1 := putN_len10 (n := (recordE ops).length) (by omega)
  have hp2 := packE_len (recordE (packL (applyE rows ops)))
  have hn2 := putN_len10 (n := (recordE (packL (applyE rows ops))).length) (by omega)
  obtain ⟨e, T', D', hu, hc⟩ := h1.commit h2 rows ops hne (by unfold CB; omega) (by unfold CB; omega)
  refine ⟨e, T', D', hu, ?_⟩
  have hn := h6.n
  rcases hc with ⟨rfl, hc⟩ | ⟨rfl, hd, bs', ls', rfl, ht, hcase⟩
  · have hdn := tabCommit_down ⟨sysP, rows, ⟨sysL, ls.map recordE, false⟩⟩ D ops
    rw [hu] at hdn
    refine .inr ⟨rfl, hdn rfl, ?_, fun loss => ?_⟩
    · rcases hc with hc | hc | hc | hc
      · exact hc.c
      · exact hc.1
      · exact hc.c
      · exact hc.c
    · obtain ⟨bs2, ls2, a1, a2, a3⟩ := hc.restart (by omega) loss
      refine ⟨bs2, ls2, a2, a1.up, ?_⟩
      rcases a3 with ⟨rfl, rfl⟩ | ⟨rfl, rfl⟩ | ⟨rfl, rfl⟩
      · exact h6.up (fun _ h => h) (Nat.le_succ k)
      · exact ⟨h6.base, fun l hl => by
          rcases List.mem_append.1 hl with hl | hl
          · exact h6.logs l hl
          · rw [List.mem_singleton.1 hl]; exact ho, by rw [List.length_append]; show _ + 1 ≤ _; omega⟩
      · exact ⟨hpk, fun l hl => by
          rcases List.mem_append.1 hl with hl | hl
          · exact h6.logs l hl
          · rw [List.mem_singleton.1 hl]; exact ho, by rw [List.length_append]; show _ + 1 ≤ _; omega⟩
  · have h0 := tabCommit_add (T := ⟨sysP, rows, ⟨sysL, ls.map recordE, false⟩⟩) (D := D) hne (by rw [hu])
    refine .inl ⟨rfl, h0, bs', ls', _, ht, hd, rfl, hnd, hra, ?_⟩
    rcases hcase with ⟨rfl, rfl, _⟩ | ⟨rfl, rfl⟩
    · exact ⟨h6.base, fun l hl => by
        rcases List.mem_append.1 hl with hl | hl
        · exact h6.logs l hl
        · rw [List.mem_singleton.1 hl]; exact ho, by rw [List.length_append]; show _ + 1 ≤ _; omega⟩
    · exact ⟨hpk, fun l hl => (by cases hl), Nat.zero_le _⟩
theorem JT.pack (h : JT S k D T) (hS : szR S ≤ 1100000) (hk : k ≤ 190) : ∃ e T' D', tabPack T D = (e, T', D') ∧ (e = 0 ∧ JT S k D' T' ∨ e = 14 ∧ CT S k D') := by
  obtain ⟨bs, ls, rows, h1, h2, rfl, h4, h5, h6⟩ := h
  have hpk := h5.pack h4
  have hrp := rec_le hpk hS
  have hp2 := packE_len (recordE (packL rows))
  have hn2 := putN_len10 (n := (recordE (packL rows)).length) (by omega)
  obtain ⟨e, T', D', hu, hc⟩ := SysU.pack ⟨h1.c, h2⟩ h1.log h1.base rows (ls.map recordE) false (by unfold CB; omega)
  refine ⟨e, T', D', hu, ?_⟩
  rcases hc with ⟨rfl, a1, a2, a3⟩ | ⟨rfl, rfl, a1, a2, a3⟩
  · have hdn := tabPack_down ⟨sysP, rows, ⟨sysL, ls.map recordE, false⟩⟩ D
    rw [hu] at hdn
    refine .inr ⟨rfl, hdn rfl, a1, fun loss => ?_⟩
    rcases a3 with a3 | a3
    · obtain ⟨b1, b2⟩ := (TabC.post ⟨a1, a2, a3⟩).restart loss
      exact ⟨bs, ls, b2, b1.up, h6⟩
    · obtain ⟨b1, b2⟩ := (TabC.post ⟨a1, a2, a3⟩).restart loss
      exact ⟨_, ls, b2, b1.up, hpk, h6.logs, h6.n⟩
  · exact .inl ⟨rfl, _, [], rows, ⟨a1.c, a2, a3⟩, a1.up, rfl, h4, h5, hpk, fun l hl => (by cases hl), Nat.zero_le _⟩
theorem RT.mk (h : RT S k D) : tabMk D sysP = (0, D) := by
  unfold tabMk
  rw [h.sysC.kindP, if_neg (by decide)]
theorem RT.logs (h : RT S k D) (hS : szR S ≤ 1100000) (hk : k ≤ 200) : ∀ e G D', walOpen D sysL = (e, some G, D') → G.recs.length ≤ 200 ∧ ∀ r ∈ G.recs, r.length ≤ 2000000 ∧ (opsE r).1.length ≤ 100000 := by
  obtain ⟨bs, ls, h1, h2, h3⟩ := h
  intro e G D' he
  obtain ⟨D2, ⟨h4, _⟩ | ⟨h4, _⟩⟩ := h1.wopen h2 (h3.wf hS hk)
  · rw [h4] at he
    cases he
    refine ⟨by rw [List.length_map]; have := h3.n; omega, fun r hr => ?_⟩
    obtain ⟨l, hl, rfl⟩ := List.mem_map.1 hr
    have hol := h3.logs l hl
    have := rec_le hol hS
    have hsz := hol.sz
    have ho := opsE_record l (smO_of (by omega)) (by omega)
    rw [ho, List.length_map]
    omega
  · rw [h4] at he; cases he
theorem RT.base (h : RT S k D) (hS : szR S ≤ 1100000) : (opsE (readE (D.read (baseP sysP)).1).1).1.length ≤ 10000000 := by
  obtain ⟨bs, ls, h1, h2, h3⟩ := h
  have h4 := opsE_len (readE (D.read (baseP sysP)).1).1
  have h5 := readE_len (D.read (baseP sysP)).1
  have h6 : (D.read (baseP sysP)).1.length ≤ 2000000 := by
    have hb := h1.base
    cases bs with
    | none =>
      have hb : D.get sysB = none := hb
      have : D.has sysB = false := by rw [Dk.has_get, hb]; rfl
      show (D.read sysB).1.length ≤ _
      unfold Dk.read
      rw [h2, if_neg (by decide), this, if_pos rfl]
      exact Nat.zero_le _
    | some ops =>
      have hb : Kept D sysB (packE (recordE ops)) := hb
      show (D.read sysB).1.length ≤ _
      rw [hb.readU h2]
      have := rec_le (show OkL S ops from h3.base) hS
      have hp2 := packE_len (recordE ops)
      have hn2 := putN_len10 (n := (recordE ops).length) (by omega)
      dsimp only
      omega
  omega
end
theorem Dt0_cP : TabC Dt0 none [] := by
  have h := Dt0_st
  refine ⟨⟨h.sys.lim, h.sys.nd, h.sys.dir, h.sys.has, h.sys.files, fun x hx => ?_, fun x hx => ?_, by kernel_rfl⟩, h.log, h.base⟩
  · simp only [Dt0, List.mem_cons, List.not_mem_nil, or_false] at hx
    rcases hx with rfl | rfl
    · exact .inl rfl
    · exact .inr (.inl rfl)
  · simp only [Dt0, List.mem_cons, List.not_mem_nil, or_false] at hx
    rcases hx with rfl | rfl
    · exact ⟨Nat.zero_le _, Nat.zero_le _, fun h => by cases h⟩
    · exact ⟨Nat.zero_le _, Nat.zero_le _, fun h => by cases h⟩
theorem Dt0_j : JT [] 0 Dt0 ⟨sysP, [], ⟨sysL, [], false⟩⟩ := ⟨none, [], [], Dt0_cP, by kernel_rfl, rfl, List.nodup_nil, OkR.nil, OkL.nil, fun l hl => (by cases hl), Nat.le_refl _⟩
structure BJ (S : Rws) (k : Nat) (m : Bch) : Prop where
  ok : BkOk m
  gone : ∀ p ∈ m, p.2.gone = true → p.2.val = []
  in_ : ∀ p ∈ m, OkO S p.2
  n : m.length ≤ k
theorem BJ.nil {S : Rws} {k : Nat} : BJ S k [] := ⟨.nil, fun p h => (by cases h), fun p h => (by cases h), Nat.zero_le _⟩
theorem BJ.up {S S' : Rws} {k k' : Nat} {m : Bch} (h : ∀ s ∈ S, s ∈ S') (hk : k ≤ k') (hb : BJ S k m) : BJ S' k' m := ⟨hb.ok, hb.gone, fun p hp => (hb.in_ p hp).up h, Nat.le_trans hb.n hk⟩
theorem BJ.note {S : Rws} {k : Nat} {m : Bch} {o : Chg} (hb : BJ S k m) (ho : OkO S o) (hg : o.gone = true → o.val = []) : BJ S (k + 1) (noteE m o) := by
  have hm : ∀ p ∈ noteE m o, p ∈ m ∨ p = (o.key, o) := fun p hp => BkOk.note.mset_in2 hp
  refine ⟨hb.ok.note o, fun p hp => ?_, fun p hp => ?_, Nat.le_trans (mset_leT m o.key o) (Nat.succ_le_succ hb.n)⟩
  · rcases hm p hp with h | rfl
    · exact hb.gone p h
    · exact hg
  · rcases hm p hp with h | rfl
    · exact hb.in_ p h
    · exact ho
theorem BJ.okL {S : Rws} {k : Nat} {m : Bch} (hb : BJ S k m) : OkL S (m.map Prod.snd) := by
  refine ⟨fun o ho => ?_, ?_, fun o ho hg => ?_⟩
  · obtain ⟨p, hp, rfl⟩ := List.mem_map.1 ho
    exact hb.in_ p hp
  · rw [List.map_map, show (m.map ((fun x => x.key) ∘ Prod.snd)) = m.map Prod.fst from List.map_congr_left fun p hp => hb.ok.2 p hp]
    exact hb.ok.1
  · obtain ⟨p, hp, rfl⟩ := List.mem_map.1 ho
    exact hb.gone p hp hg
end Go.Proofs.YtccfiohagbneaaaGreatDoor

/- What is proved: sizes and steps of a table over a script, as the law's walk wants them. Conditions: keys and texts of bounded length in all. -/
namespace Go.Proofs.YtccfiohagbneaaaGreatDoor
open Go Go.J Go.RowKit
section
variable {S S' : Rws} {k : Nat} {D : Dk} {T : Tb} {m : Bch}
theorem SysC.kp2 (h : SysC D) : D.Kp 1099511627776 := fun x hx => by
  obtain ⟨a, b, c⟩ := h.kp x hx
  unfold CB at a b
  exact ⟨by omega, by omega, c⟩
theorem SysC.kk (h : SysC D) : ∀ x ∈ D.items, x.1.length ≤ 1099511627 := fun x hx => by
  rcases h.keys x hx with e | e | e | e | e <;> rw [e] <;> decide
structure JTf (D : Dk) (T : Tb) : Prop where
  dir : T.dir.length ≤ 100
  p : T.log.p.length ≤ 100
  sm : D.Sm 549755813888
  it : D.items.length ≤ 5
  rows : T.rows.length ≤ 40000
  recs : T.log.recs.length ≤ 200
  nd : (T.rows.map Prod.fst).Nodup
  pk : (recordE (packL T.rows)).length ≤ 1100010
  keys : ∀ p ∈ T.rows, p.1.length ≤ 1100000
theorem JT.facts (h : JT S k D T) (hS : szR S ≤ 1100000) (hk : k ≤ 200) : JTf D T := by
  have hc := h.sysC
  obtain ⟨bs, ls, rows, h1, h2, rfl, h4, h5, h6⟩ := h
  have hr := rec_le (h5.pack h4) hS
  have hs := h5.sz h4
  have hl := szR_len rows
  exact ⟨(show sysP.length ≤ 100 by decide), (show sysL.length ≤ 100 by decide), hc.smB (by decide), hc.len, by show rows.length ≤ _; omega, by show (ls.map recordE).length ≤ _; rw [List.length_map]; have := h6.n; omega, h4, hr.1, fun p hp => by have := szR_mem (show p ∈ rows from hp); omega⟩
structure BJf (T : Tb) (m : Bch) : Prop where
  rc : (recordE (m.map Prod.snd)).length ≤ 1100010
  rc2 : (recordE (packL (applyE T.rows (m.map Prod.snd)))).length ≤ 1100010
  rows : (applyE T.rows (m.map Prod.snd)).length ≤ 40000
  keys : ∀ p ∈ applyE T.rows (m.map Prod.snd), p.1.length ≤ 1100000
  n : m.length ≤ 200
theorem BJ.facts (hb : BJ S k m) (h : JT S k D T) (hS : szR S ≤ 1100000) (hk : k ≤ 200) : BJf T m := by
  obtain ⟨bs, ls, rows, h1, h2, rfl, h4, h5, h6⟩ := h
  have ho := hb.okL
  have hr0 := rec_le ho hS
  have hra := h5.apply ho.ok
  have hnd : ((applyE rows (m.map Prod.snd)).map Prod.fst).Nodup := nodup_apply h4
  have hr := rec_le (hra.pack hnd) hS
  have hs := hra.sz hnd
  have hl := szR_len (applyE rows (m.map Prod.snd))
  exact ⟨hr0.1, hr.1, by show (applyE rows (m.map Prod.snd)).length ≤ _; omega, fun p hp => by have := szR_mem (show p ∈ applyE rows (m.map Prod.snd) from hp); omega, by have := hb.n; omega⟩
theorem JT.commitB (h : JT S k D T) (hb : BJ S k m) (hS : szR S ≤ 1100000) (hk : k ≤ 190) :
    ∃ e T' D', tabCommit T D (m.map Prod.snd) = (e, T', D') ∧ (e = 0 ∧ bchLeft T D m = [] ∧ JT S (k + 1) D' T' ∨ e = 14 ∧ CT S (k + 1) D') := by
  by_cases hm : m = []
  · subst hm
    refine ⟨0, T, D, by unfold tabCommit; rw [if_pos (by rfl)], .inl ⟨rfl, by unfold bchLeft; split <;> rfl, h.up (fun _ h => h) (Nat.le_succ k)⟩⟩
  · obtain ⟨e, T', D', h1, h2⟩ := h.commit hb.okL (fun e => hm (List.map_eq_nil_iff.1 e)) hS hk
    refine ⟨e, T', D', h1, ?_⟩
    rcases h2 with ⟨a, b, c⟩ | h2
    · exact .inl ⟨a, by unfold bchLeft; rw [if_neg (by rw [b]; decide)], c⟩
    · exact .inr h2
def O7 (S : Rws) (k : Nat) (kind : Int) (D : Dk) (T : Tb) (m : Bch) (os : List Chg) : Prop := (JT S k D T ∧ BJ S k m ∧ os = m.map Prod.snd) ∨ CT S k D ∨ (kind = 8 ∧ RT S k D)
theorem JT.dn (h : JT S k D T) : D.down = false := by obtain ⟨bs, ls, rows, h1, h2, _⟩ := h; exact h2
theorem RT.dn (h : RT S k D) : D.down = false := by obtain ⟨bs, ls, h1, h2, _⟩ := h; exact h2
theorem CT.up (h : CT S k D) : CT S (k + 1) D := ⟨h.1, h.2.1, fun loss => by
  obtain ⟨bs, ls, a, b, c⟩ := h.2.2 loss
  exact ⟨bs, ls, a, b, c.up (fun _ h => h) (Nat.le_succ k)⟩⟩
structure Stp07 where
  kind : Int
  key : List UInt8
  text : List UInt8
  n : Int
def encStp07 (s : Stp07) : List Value := [.int .i64 s.kind, str s.key, str s.text, .int .i64 s.n]
def cStp07 : Cod Stp07 := .flat encStp07 4 fun _ => rfl
def kts (l : List Stp07) (i : Nat) : Rws := (l.take i).map fun s => (s.key, s.text)
theorem kts_succ {l : List Stp07} {i : Nat} (h : i < l.length) : kts l (i + 1) = kts l i ++ [(l[i].key, l[i].text)] := by
  unfold kts
  rw [List.take_succ_eq_append_getElem h, List.map_append]
  rfl
theorem kts_sz (l : List Stp07) (i : Nat) : szR (kts l i) ≤ (l.map fun s => s.key.length + s.text.length).sum + 32 * i := by
  induction i generalizing l with
  | zero => simp [kts, szR]
  | succ i ih =>
    cases l with
    | nil => simp [kts, szR]
    | cons x l =>
      have := ih l
      unfold kts szR at this ⊢
      simp only [List.take_succ_cons, List.map_cons, List.sum_cons]
      omega
end
end Go.Proofs.YtccfiohagbneaaaGreatDoor

/- What is proved: the law TablePlays: a table over any script is the document's. Conditions: a script of bounded bulk. -/
namespace Go.Proofs.YtccfiohagbneaaaGreatDoor
open Go Go.J Go.RowKit
theorem open0_base : (opsE (readE ((tabMk Dk0 sysP).2.read (baseP sysP)).1).1).1.length ≤ 10000000 := by
  have : (opsE (readE ((tabMk Dk0 sysP).2.read (baseP sysP)).1).1).1.length = 0 := by kernel_rfl
  omega
theorem open0_log : ∀ e G D', walOpen (tabMk Dk0 sysP).2 (logP sysP) = (e, some G, D') → G.recs.length ≤ 1000 ∧ ∀ r ∈ G.recs, r.length ≤ 1099511627776 ∧ (opsE r).1.length ≤ 100000 := fun e G D' h => by
  have h2 : walOpen (tabMk Dk0 sysP).2 (logP sysP) = (0, some ⟨sysL, [], false⟩, Dt0) := by kernel_rfl
  rw [h2] at h
  cases h
  exact ⟨by decide, by simp⟩
theorem rtopenFirst_c {dk : Nat} {fq : List Nat} {w0 : World} (hi : InL w0 [rfC dk Dk0 fq]) :
    Cal Tryz.prog 37 [.pointer (some ⟨dk, 0, none⟩), str sysP] w0 (fun v w' => ∃ u fu fq', v = .tuple #[.pointer (some ⟨u, 0, none⟩), .int .i64 0] ∧ MutL w0 w' [rfC dk Dk0 fq] [utC u dk ⟨sysP, [], ⟨sysL, [], false⟩⟩ fu, rfC dk Dt0 fq']) := by
  have h := rtopen_c sysP hi (by decide) Dk0_sm (by decide) open0_base open0_log
  rw [open_first] at h
  exact h
theorem topenR_c {q mb lb : Nat} {S : Rws} {k : Nat} {D : Dk} {w0 : World} (hi : InL w0 [dkC q mb lb D]) (h : RT S k D) (hS : szR S ≤ 1100000) (hk : k ≤ 200) :
    Cal Tryz.prog 36 [.pointer (some ⟨q, 0, none⟩), str sysP] w0 (topenR q mb lb D w0 (tabOpen D sysP)) :=
  topen_c sysP hi (by decide) (h.sysC.smB (by decide)) fun e G D' hw => by
    rw [h.mk] at hw
    obtain ⟨a, b⟩ := h.logs hS hk e G D' hw
    exact ⟨by omega, fun r hr => by have := b r hr; omega⟩
theorem rtopenR_c {dk : Nat} {fq : List Nat} {S : Rws} {k : Nat} {D : Dk} {w0 : World} (hi : InL w0 [rfC dk D fq]) (h : RT S k D) (hS : szR S ≤ 1100000) (hk : k ≤ 200) :
    Cal Tryz.prog 37 [.pointer (some ⟨dk, 0, none⟩), str sysP] w0 (rtopenR dk D fq w0 (tabOpen D sysP)) :=
  rtopen_c sysP hi (by decide) (h.sysC.smB (by decide)) (by have := h.sysC.len; omega) (by rw [h.mk]; exact h.base hS) fun e G D' hw => by
    rw [h.mk] at hw
    obtain ⟨a, b⟩ := h.logs hS hk e G D' hw
    exact ⟨by omega, fun r hr => by have := b r hr; omega⟩
set_option maxHeartbeats 64000000 in
set_option maxRecDepth 100000 in
theorem tablePlays_c (l : List Stp07) {A : Option Addr} {cap : Nat} {w0 : World} (hA : SlAt cStp07 (Old w0) w0 A l) (hl : (l.map fun s => s.key.length + s.text.length).sum + l.length ≤ 1048576) (hn : ∀ s ∈ l, -9223372036854775808 ≤ s.n ∧ s.n ≤ 9223372036854775807) :
    Cal Tryz.prog 4 [.slice A l.length cap] w0 (fun v w' => Upd [] w0 w' ∧ v = .bool true) := by
  refine Cal.mk' (by kernel_rfl) Tryz.func4 rfl rfl fun hS => ?_
  repeat' (first | (show WL _ _ _ _ _ _ _; first | refine WL.pure rfl rfl rfl rfl ?_ | refine WL.nil ?_ | (refine WL.callG rfl rfl (dnew_c _) rfl rfl rfl ?_; rintro v w ⟨hu, q, mb, lb, rfl, hn2⟩; replace hS := hS.new hu hn2; clear hu hn2) | (refine WL.callG rfl rfl (rfnew_c _) rfl rfl rfl ?_; rintro v w ⟨hu, dk, f0, rfl, hn2⟩; replace hS := hS.new hu hn2; clear hu hn2) | (refine WL.calls hS rfl rfl (tawake_c _) rfl rfl rfl ?_; rintro v w rfl hS) | (refine WL.callL (D := [dkC q mb lb Dk0]) hS Pu rfl rfl (fun hI => topenFirst_c hI) rfl rfl rfl ?_; rintro v w ⟨Tp, fp, rfl, hm⟩ hS; replace hS := hS _ hm; clear hm) | (refine WL.callL (D := [rfC dk Dk0 f0]) hS Pu rfl rfl (fun hI => rtopenFirst_c hI) rfl rfl rfl ?_; rintro v w ⟨u, fu, fq, rfl, hm⟩ hS; replace hS := hS _ hm; clear hm) | (refine WL.callG rfl rfl (begin_c _) rfl rfl rfl ?_; rintro v w ⟨hu, B, fb, rfl, hn2⟩; replace hS := hS.new hu hn2; clear hu hn2)) | (show WC _ _ _ _ _ _; first | refine WC.seq ?_ | refine WC.region ?_ | refine WC.block ?_ | refine WC.skip ?_ | refine WC.condF rfl (by with_reducible rfl) ?_) | refine seqQ_n ?_)
  have hS := hS.nilRow 79 3
  have hsz : ∀ i, i ≤ 150 → szR (kts l i) ≤ 1100000 := fun i hi => by have := kts_sz l i; omega
  refine WC.loop (σ := Nat × Dk × Tb × Bch × Nat × Nat × Nat × Option Addr × Nat × List Nat × List Nat × List Nat × List Nat) [0, 3, 4]
    (fun (i, D, T, m, Tp, u, B, A2, c2, _) => [(5, .pointer (some ⟨Tp, 0, none⟩)), (7, .pointer (some ⟨u, 0, none⟩)), (9, .pointer (some ⟨B, 0, none⟩)), (10, .slice A2 (m.map Prod.snd).length c2), (11, .int .i64 (i : Int))])
    (fun (i, D, T, m, Tp, u, B, A2, c2, fb, fp, fu, fq) w => (i ≤ l.length ∧ i ≤ 150 ∧ JT (kts l i) i D T ∧ BJ (kts l i) i m) ∧ St w0 [] w [bchC B (some ⟨Tp, 0, none⟩) m fb, tabC Tp q T fp, dkC q mb lb D, utC u dk T fu, rfC dk D fq, .own (.slice A2 (m.map Prod.snd).length c2) 79 3 (m.map Prod.snd).length (chgs (m.map Prod.snd))] [⟨w0, Old w0⟩]) (fun (i, _) => l.length - i)
    (0, Dt0, _, [], Tp, u, B, none, 0, fb, fp, fu, fq) ⟨⟨Nat.zero_le _, Nat.zero_le _, Dt0_j, BJ.nil⟩, hS.droplast2 Pu⟩ ⟨rfl, rfl, rfl, rfl, rfl, trivial⟩ ?_
  clear hS
  rintro ⟨i, D, T, m, Tp, u, B, A2, c2, fb, fp, fu, fq⟩ g w ⟨⟨hi, hi2, hJ, hB⟩, hS⟩
  show WC _ _ _ (lf _ [(5, .pointer (some ⟨Tp, 0, none⟩)), (7, .pointer (some ⟨u, 0, none⟩)), (9, .pointer (some ⟨B, 0, none⟩)), (10, .slice A2 (m.map Prod.snd).length c2), (11, .int .i64 (i : Int))] _ _) _ _
  by_cases hlt : i < l.length
  rotate_left
  · have hie : i = l.length := by omega
    subst hie
    repeat' (first | (show WL _ _ _ _ _ _ _; first | refine WL.pure rfl rfl rfl rfl ?_ | refine WL.nil ?_ | refine WL.skip rfl rfl rfl ?_ | ((fail_if_success (refine WL.wanted rfl ?_)); refine WL.guard rfl rfl rfl (fun h => ?_) (fun h => ?_) <;> (try simp only [ZZ0, ZZ1, ZZ2, ZZ3, ZZ4, ZZ5, ZZ6, ZZ7, ZZ8, ZZ9, ZZ10, ZZ11, ZZ12, ZZ13, ZZ14, ZZ15] at h) <;> (try (exfalso; first | omega | contradiction)))) | (show WC _ _ _ _ _ _; first | refine WC.seq ?_ | refine WC.region ?_ | refine WC.exit ?_ | refine WC.ret ?_ | refine WC.condF rfl (by with_reducible rfl) ?_) | refine seqQ_n ?_ | refine seqQ_x ?_ | refine blkQ_hit rfl ?_ | refine rndQ_x ?_)
    exact fin1r rfl rfl ⟨hS.upd, rfl⟩
  by_cases hlt2 : i < 150
  rotate_left
  · have hie : i = 150 := by omega
    subst hie
    repeat' (first | (show WL _ _ _ _ _ _ _; first | refine WL.pure rfl rfl rfl rfl ?_ | refine WL.nil ?_ | ((fail_if_success (refine WL.wanted rfl ?_)); refine WL.guard rfl rfl rfl (fun h => ?_) (fun h => ?_) <;> (try simp only [ZZ0, ZZ1, ZZ2, ZZ3, ZZ4, ZZ5, ZZ6, ZZ7, ZZ8, ZZ9, ZZ10, ZZ11, ZZ12, ZZ13, ZZ14, ZZ15] at h) <;> (try (exfalso; first | omega | contradiction)))) | (show WC _ _ _ _ _ _; first | refine WC.seq ?_ | refine WC.region ?_ | refine WC.exit ?_ | refine WC.ret ?_ | refine WC.condF rfl (by decide) ?_) | refine seqQ_n ?_ | refine seqQ_x ?_ | refine blkQ_hit rfl ?_ | refine rndQ_x ?_)
    exact fin1r rfl rfl ⟨hS.upd, rfl⟩
  obtain ⟨rb, ro, es, rfl, hF, hr, hes⟩ := hA.at_ hlt
  have hes : es = encStp07 l[i] := hes
  subst hes
  have hr : w0.rangeAt rb (ro + i * 4) (encStp07 l[i]) := hr
  have hN := hn _ (List.getElem_mem hlt)
  have hKs := kts_succ hlt
  have hsz1 := hsz (i + 1) (by omega)
  have hsub : ∀ s ∈ kts l i, s ∈ kts l (i + 1) := fun s hs => by rw [hKs]; exact List.mem_append_left _ hs
  have hin : (l[i].key, l[i].text) ∈ kts l (i + 1) := by rw [hKs]; exact List.mem_append_right _ (List.mem_singleton.2 rfl)
  replace hJ := hJ.up hsub (Nat.le_refl i)
  replace hB := hB.up hsub (Nat.le_refl i)
  clear hKs hsub hn hA
  generalize l[i] = s at *
  generalize hSe : kts l (i + 1) = S at *
  obtain ⟨kind, key, text, n⟩ := s
  unfold encStp07 at hr
  dsimp only at hr hN hin
  have hf := hJ.facts hsz1 (by omega)
  have hbf := hB.facts hJ hsz1 (by omega)
  have hfdir := hf.dir; have hfp := hf.p; have hfsm := hf.sm; have hfit := hf.it; have hfrows := hf.rows; have hfrecs := hf.recs; have hfpk := hf.pk; have hfkeys := hf.keys
  have hbrc := hbf.rc; have hbrc2 := hbf.rc2; have hbrows := hbf.rows; have hbkeys := hbf.keys; have hbn := hbf.n
  clear hf hbf
  obtain ⟨e1, T1, D1, hcm, hcx⟩ := hJ.commitB hB hsz1 (by omega)
  obtain ⟨e2, T2, D2, hpk, hpx⟩ := hJ.pack hsz1 (by omega)
  have hok := hB.ok
  have hup : JT S (i + 1) D T := hJ.up (fun _ h => h) (Nat.le_succ i)
  have hBu : BJ S (i + 1) m := hB.up (fun _ h => h) (Nat.le_succ i)
  have hput : BJ S (i + 1) (noteE m ⟨key, text, false⟩) := hB.note ⟨_, hin, rfl, Nat.le_refl _⟩ (fun h => by cases h)
  have hdrop : BJ S (i + 1) (noteE m ⟨key, [], true⟩) := hB.note ⟨_, hin, rfl, Nat.zero_le _⟩ (fun _ => rfl)
  have hb1 := hok.bat ⟨key, text, false⟩
  have hb2 := hok.bat ⟨key, [], true⟩
  have hbt := fun (o : Chg) (w : World) (A : Option Addr) (c : Nat) (h : SlAt cChg (Old w) w A (m.map Prod.snd)) => rtbatch_c (m.map Prod.snd) o (cap := c) h (by rw [List.length_map]; omega)
  have hbt1 := hbt ⟨key, text, false⟩
  have hbt2 := hbt ⟨key, [], true⟩
  rw [hb1] at hbt1
  rw [hb2] at hbt2
  unfold cellsChg at hbt1 hbt2
  dsimp only at hbt1 hbt2
  have hrst := hup.restart n
  have harm := hup.arm n
  have hkp := hJ.sysC.kp2
  have hkk := hJ.sysC.kk
  have hsm2 : D.Sm 1099511627776 := hfsm.up (by decide)
  have hml : (m.map Prod.snd).length = m.length := List.length_map ..
  have hk3 : O7 S (i + 1) kind D1 T1 (bchLeft T D m) [] := by
    rcases hcx with ⟨_, hx, hj⟩ | ⟨_, hc⟩
    · rw [hx]; exact .inl ⟨hj, BJ.nil, rfl⟩
    · exact .inr (.inl hc)
  have hk5 : O7 S (i + 1) kind D2 T2 m (m.map Prod.snd) := by
    rcases hpx with ⟨_, hj⟩ | ⟨_, hc⟩
    · exact .inl ⟨hj.up (fun _ h => h) (Nat.le_succ i), hBu, rfl⟩
    · exact .inr (.inl hc.up)
  clear hcx hpx hb1 hb2 hbt
  repeat' (first | (show WL _ _ _ _ _ _ _; first | refine WL.pure rfl rfl rfl rfl ?_ | refine WL.nil ?_ | refine WL.load hS rfl rfl (LdOk.box Mm rfl) rfl rfl rfl ?_ | (refine WL.load hS rfl rfl (LdOk.snap0 hF hr Mm rfl) rfl rfl rfl ?_) | (refine WL.callL (D := [bchC B (some ⟨Tp, 0, none⟩) m fb]) hS Pu rfl rfl (fun hI => bput_c key text hI.head hI.headB (by omega)) rfl rfl rfl ?_; rintro v w ⟨rfl, f1, hm⟩ hS; replace hS := hS _ (.of1 hm); clear hm) | (refine WL.callL (D := [bchC B (some ⟨Tp, 0, none⟩) m fb]) hS Pu rfl rfl (fun hI => bdrop_c key hI.head hI.headB (by omega)) rfl rfl rfl ?_; rintro v w ⟨rfl, f1, hm⟩ hS; replace hS := hS _ (.of1 hm); clear hm) | (refine WL.callG rfl rfl (hbt1 _ _ _ (St.ownSl (enc := cellsChg) (hsz := fun _ => rfl) (l := m.map Prod.snd) (by decide) hS Mm)) rfl rfl rfl ?_; rintro v w ⟨hu, A5, c5, rfl, hn5⟩; replace hS := hS.new hu hn5; clear hu hn5) | (refine WL.callG rfl rfl (hbt2 _ _ _ (St.ownSl (enc := cellsChg) (hsz := fun _ => rfl) (l := m.map Prod.snd) (by decide) hS Mm)) rfl rfl rfl ?_; rintro v w ⟨hu, A5, c5, rfl, hn5⟩; replace hS := hS.new hu hn5; clear hu hn5) | (refine WL.callL (D := [bchC B (some ⟨Tp, 0, none⟩) m fb, tabC Tp q T fp, dkC q mb lb D]) hS Pu rfl rfl (fun hI => bcommit_c hI hcm (by omega) (by omega) hfsm (by omega) (by omega) (by omega) (by omega) (by omega) (fun p hp => by have := hbkeys p hp; omega)) rfl rfl rfl ?_; rintro v w ⟨rfl, f1, f2, hm⟩ hS; replace hS := hS _ hm; clear hm) | (have hS2 := hS.pulls (D := [utC u dk T fu, rfC dk D fq]) Pu; refine WL.callL (D := [utC u dk T fu, rfC dk D fq]) hS Pu rfl rfl (fun hI => rtcommit_c (m.map Prod.snd) hI (St.ownSlY (D := [utC u dk T fu, rfC dk D fq]) (enc := cellsChg) (hsz := fun _ => rfl) (l := m.map Prod.snd) (by decide) hS2 Mm) (by omega) (by omega) hfsm (by omega) (by omega) (by omega) (by omega) (by omega) (by omega)) rfl rfl rfl ?_; rw [hcm]; rintro v w ⟨rfl, f3, f4, hm⟩ hS; replace hS := hS _ hm; clear hm hS2) | (refine WL.callG rfl rfl (begin_c _) rfl rfl rfl ?_; rintro v w ⟨hu, B5, f1, rfl, hn5⟩; replace hS := hS.new hu hn5; clear hu hn5) | (refine WL.callL (D := [tabC Tp q T fp, dkC q mb lb D]) hS Pu rfl rfl (fun hI => tpack_c hI hpk (by omega) (by omega) hsm2 (by omega) (by omega) (fun p hp => by have := hfkeys p hp; omega)) rfl rfl rfl ?_; rintro v w ⟨rfl, f2, hm⟩ hS; replace hS := hS _ hm; clear hm) | (refine WL.callL (D := [utC u dk T fu, rfC dk D fq]) hS Pu rfl rfl (fun hI => rtpack_c hI hpk (by omega) (by omega) hsm2 (by omega) (by omega) (by omega)) rfl rfl rfl ?_; rintro v w ⟨rfl, f3, f4, hm⟩ hS; replace hS := hS _ hm; clear hm) | (refine WL.callL (D := [dkC q mb lb D]) hS Pu rfl rfl (fun hI => arm_c n hI.head hI.headB) rfl rfl rfl ?_; rintro v w ⟨rfl, hm⟩ hS; replace hS := hS _ (.of1 hm); clear hm; obtain ⟨_, ⟨A5, c5, l5, hR5, rfl⟩, hfp5, hS⟩ := St.objOpen (φ := rfφ dk D) (fp := fq) (hS.pull Pl1); dsimp only [List.cons_append, List.nil_append] at hS) | (refine WL.callL (D := [dkC q mb lb D]) hS Pu rfl rfl (fun hI => restart_c n hI.head hI.headB hkp (by omega) hkk) rfl rfl rfl ?_; rintro v w ⟨rfl, hm⟩ hS; replace hS := hS _ (.of1 hm); clear hm) | (refine WL.callL (D := [rfC dk D fq]) hS Pu rfl rfl (fun hI => rfrestart_c n hI hkp (by omega)) rfl rfl rfl ?_; rintro v w ⟨rfl, f2, hm⟩ hS; replace hS := hS _ hm; clear hm) | refine WL.maxI rfl rfl rfl rfl rfl rfl ?_ | (refine WL.store hS rfl rfl rfl Sb rfl rfl rfl ?_; intro w hS) | (refine WL.alloc hS rfl rfl rfl rfl rfl rfl ?_; intro w b hS) | refine WL.index rfl rfl rfl rfl (by first | with_reducible assumption | omega) rfl rfl rfl rfl ?_ | refine WL.build rfl rfl rfl rfl rfl ?_ | ((fail_if_success (refine WL.wanted rfl ?_)); refine WL.guard rfl rfl rfl (fun h => ?_) (fun h => ?_) <;> (try simp only [ZZ0, ZZ1, ZZ2, ZZ3, ZZ4, ZZ5, ZZ6, ZZ7, ZZ8, ZZ9, ZZ10, ZZ11, ZZ12, ZZ13, ZZ14, ZZ15] at h) <;> (try (exfalso; first | omega | contradiction)))) | (show WC _ _ _ _ _ _; first | (show WC _ _ (Code.seq (Code.seq (Code.region 14 _ _) (Code.block 2 _)) _) _ _ _; refine WC.cutS (σ := Dk × Tb × Bch × List Chg × Nat × Option Addr × Nat × List Nat × List Nat × List Nat × List Nat) [0, 3, 4, 5, 7, 11, 12] (fun (D, T, m, os, B, A2, c2, _) => [(9, .pointer (some ⟨B, 0, none⟩)), (10, .slice A2 os.length c2)]) (fun (D, T, m, os, B, A2, c2, fb, fp, fu, fq) w => O7 S (i + 1) kind D T m os ∧ St w0 [] w [bchC B (some ⟨Tp, 0, none⟩) m fb, tabC Tp q T fp, dkC q mb lb D, utC u dk T fu, rfC dk D fq, .own (.slice A2 os.length c2) 79 3 os.length (chgs os), .box b 75 [.int .i64 kind, str key, str text, .int .i64 n]] [⟨w0, Old w0⟩]) ?_ ?_) | refine WC.seq ?_ | refine WC.region ?_ | refine WC.block ?_ | refine WC.skip ?_ | refine WC.condT rfl (decide_eq_true (by first | with_reducible assumption | omega)) ?_ | refine WC.condF rfl (decide_eq_false (by first | with_reducible assumption | omega)) ?_ | (refine WC.cond rfl (fun h => ?_) (fun h => ?_) <;> (try simp only [ZZ0, ZZ1, ZZ2, ZZ3, ZZ4, ZZ5, ZZ6, ZZ7, ZZ8, ZZ9, ZZ10, ZZ11, ZZ12, ZZ13, ZZ14, ZZ15] at h) <;> (try (exfalso; first | omega | contradiction)))) | refine seqQ_n ?_ | refine blkQ_n ?_)
  all_goals first
    | exact endQ_n (D, T, noteE m ⟨key, text, false⟩, (noteE m ⟨key, text, false⟩).map Prod.snd, B, A5, c5, f1, fp, fu, fq) ⟨.inl ⟨hup, hput, rfl⟩, hS.droplast2 Pu⟩ ⟨rfl, rfl, trivial⟩ ⟨rfl, rfl, rfl, rfl, rfl, rfl, rfl, trivial⟩
    | exact endQ_n (D, T, noteE m ⟨key, [], true⟩, (noteE m ⟨key, [], true⟩).map Prod.snd, B, A5, c5, f1, fp, fu, fq) ⟨.inl ⟨hup, hdrop, rfl⟩, hS.droplast2 Pu⟩ ⟨rfl, rfl, trivial⟩ ⟨rfl, rfl, rfl, rfl, rfl, rfl, rfl, trivial⟩
    | exact endQ_n (D1, T1, bchLeft T D m, [], B, none, 0, f1, f2, f3, f4) ⟨hk3, (hS.nilRow 79 3).droplast2 Pu⟩ ⟨rfl, rfl, trivial⟩ ⟨rfl, rfl, rfl, rfl, rfl, rfl, rfl, trivial⟩
    | exact endQ_n (D, T, [], [], B5, none, 0, f1, fp, fu, fq) ⟨.inl ⟨hup, BJ.nil, rfl⟩, (hS.nilRow 79 3).droplast2 Pu⟩ ⟨rfl, rfl, trivial⟩ ⟨rfl, rfl, rfl, rfl, rfl, rfl, rfl, trivial⟩
    | exact endQ_n (D2, T2, m, m.map Prod.snd, B, A2, c2, fb, f2, f3, f4) ⟨hk5, hS.droplast2 Pu⟩ ⟨rfl, rfl, trivial⟩ ⟨rfl, rfl, rfl, rfl, rfl, rfl, rfl, trivial⟩
    | exact endQ_n (D.restart n, T, m, m.map Prod.snd, B, A2, c2, fb, fp, fu, f2) ⟨.inr (.inr ⟨by assumption, hrst⟩), hS.droplast2 Pu⟩ ⟨rfl, rfl, trivial⟩ ⟨rfl, rfl, rfl, rfl, rfl, rfl, rfl, trivial⟩
    | exact endQ_n (D, T, m, m.map Prod.snd, B, A2, c2, fb, fp, fu, fq) ⟨.inl ⟨hup, hBu, rfl⟩, hS.droplast2 Pu⟩ ⟨rfl, rfl, trivial⟩ ⟨rfl, rfl, rfl, rfl, rfl, rfl, rfl, trivial⟩
    | (have e : D.arm n = { D with armed := max n (-1) } := by
        unfold Dk.arm
        rw [Int.max_comm]
       rw [e] at hS harm
       have hS := St.objClose (φ := rfφ dk { D with armed := max n (-1) }) (hS.pulls (D := rfL dk A5 c5 l5 { D with armed := max n (-1) }) Pu) ⟨A5, c5, l5, hR5, rfl⟩
       exact endQ_n ({ D with armed := max n (-1) }, T, m, m.map Prod.snd, B, A2, c2, fb, fp, fu, _) ⟨.inl ⟨harm, hBu, rfl⟩, hS.droplast2 Pu⟩ ⟨rfl, rfl, trivial⟩ ⟨rfl, rfl, rfl, rfl, rfl, rfl, rfl, trivial⟩)
    | skip
  repeat (clear hS)
  clear hk3 hk5 hup hBu hput hdrop hrst harm hcm hpk hbt1 hbt2 hok hkp hkk hsm2 hml
  rintro ⟨D, T, m, os, B, A2, c2, fb, fp, fu, fq⟩ g2 w ⟨hO, hS⟩
  obtain ⟨sb, hsb⟩ : ∃ sb, sb = b := ⟨_, rfl⟩
  subst hsb
  show WC _ _ _ (lf _ [(9, .pointer (some ⟨B, 0, none⟩)), (10, .slice A2 os.length c2)] _ _) _ _
  clear hbrc hbrc2 hbrows hbkeys hbn hfdir hfp hfsm hfit hfrows hfrecs hfpk hfkeys hJ hB hr hes hF hin
  refine WC.cutS (σ := Dk × Tb × Bch × Nat × Nat × Nat × Option Addr × Nat × List Nat × List Nat × List Nat × List Nat) [0, 3, 4, 11, 12] (fun (D, T, m, Tp, u, B, A2, c2, _) => [(5, .pointer (some ⟨Tp, 0, none⟩)), (7, .pointer (some ⟨u, 0, none⟩)), (9, .pointer (some ⟨B, 0, none⟩)), (10, .slice A2 (m.map Prod.snd).length c2)])
    (fun (D, T, m, Tp, u, B, A2, c2, fb, fp, fu, fq) w => (JT S (i + 1) D T ∧ BJ S (i + 1) m) ∧ St w0 [] w [bchC B (some ⟨Tp, 0, none⟩) m fb, tabC Tp q T fp, dkC q mb lb D, utC u dk T fu, rfC dk D fq, .own (.slice A2 (m.map Prod.snd).length c2) 79 3 (m.map Prod.snd).length (chgs (m.map Prod.snd)), .box sb 75 [.int .i64 kind, str key, str text, .int .i64 n]] [⟨w0, Old w0⟩]) ?_ ?_
  · have hcase : (¬ kind = 6 ∧ ¬ kind = 8 ∧ D.down = false ∧ JT S (i + 1) D T ∧ BJ S (i + 1) m ∧ os = m.map Prod.snd) ∨ ∃ Dr, RT S (i + 1) Dr ∧ ((D.down = true ∧ Dr = D.restart n ∧ SysC D) ∨ ((kind = 6 ∨ kind = 8) ∧ D.down = false ∧ Dr = D)) := by
      rcases hO with ⟨hJ, hB, ho⟩ | hC | ⟨h8, hR⟩
      · by_cases h6 : kind = 6
        · exact .inr ⟨D, hJ.re, .inr ⟨.inl h6, hJ.dn, rfl⟩⟩
        · by_cases h8 : kind = 8
          · exact .inr ⟨D, hJ.re, .inr ⟨.inr h8, hJ.dn, rfl⟩⟩
          · exact .inl ⟨h6, h8, hJ.dn, hJ, hB, ho⟩
      · exact .inr ⟨_, hC.2.2 n, .inl ⟨hC.1, rfl, hC.2.1⟩⟩
      · exact .inr ⟨D, hR, .inr ⟨.inr h8, hR.dn, rfl⟩⟩
    clear hO
    rcases hcase with ⟨h6, h8, hdn, hJ, hB, rfl⟩ | ⟨Dr, hR, hcase⟩
    · repeat' (first | (show WL _ _ _ _ _ _ _; first | refine WL.pure rfl rfl rfl rfl ?_ | refine WL.nil ?_ | refine WL.load hS rfl rfl (LdOk.box Mm rfl) rfl rfl rfl ?_ | (refine WL.calls hS rfl rfl (ddown_c (hS.holds (dkC q mb lb D) Mm).1) rfl rfl rfl ?_; rintro v w rfl hS; rw [hdn]) | ((fail_if_success (refine WL.wanted rfl ?_)); refine WL.guard rfl rfl rfl (fun h => ?_) (fun h => ?_) <;> (try simp only [ZZ0, ZZ1, ZZ2, ZZ3, ZZ4, ZZ5, ZZ6, ZZ7, ZZ8, ZZ9, ZZ10, ZZ11, ZZ12, ZZ13, ZZ14, ZZ15] at h) <;> (try (exfalso; first | omega | contradiction)))) | (show WC _ _ _ _ _ _; first | refine WC.seq ?_ | refine WC.region ?_ | refine WC.skip ?_ | refine WC.condF rfl (by with_reducible rfl) ?_) | refine seqQ_n ?_)
      exact endQ_n (D, T, m, Tp, u, B, A2, c2, fb, fp, fu, fq) ⟨⟨hJ, hB⟩, hS.droplast2 Pu⟩ ⟨rfl, rfl, rfl, rfl, trivial⟩ ⟨rfl, rfl, rfl, rfl, rfl, trivial⟩
    have hto := fun (w : World) (hI : InL w [dkC q mb lb Dr]) => topenR_c hI hR hsz1 (by omega)
    have hro := fun (fq : List Nat) (w : World) (hI : InL w [rfC dk Dr fq]) => rtopenR_c (fq := fq) hI hR hsz1 (by omega)
    rcases hR.open hsz1 (by omega) with ⟨T2, D2, he, hJ2⟩ | ⟨D2, he⟩
    · rw [he] at hto hro
      have hto : ∀ w, InL w [dkC q mb lb Dr] → Cal Tryz.prog 36 [.pointer (some ⟨q, 0, none⟩), str sysP] w (fun v w' => ∃ Tp fp, v = .tuple #[.pointer (some ⟨Tp, 0, none⟩), .int .i64 0] ∧ MutL w w' [dkC q mb lb Dr] [tabC Tp q T2 fp, dkC q mb lb D2]) := hto
      have hro : ∀ fq w, InL w [rfC dk Dr fq] → Cal Tryz.prog 37 [.pointer (some ⟨dk, 0, none⟩), str sysP] w (fun v w' => ∃ u fu fq', v = .tuple #[.pointer (some ⟨u, 0, none⟩), .int .i64 0] ∧ MutL w w' [rfC dk Dr fq] [utC u dk T2 fu, rfC dk D2 fq']) := hro
      clear he
      rcases hcase with ⟨hdn, rfl, hc⟩ | ⟨rfl | rfl, hdn, rfl⟩
      · have hkp := hc.kp2
        have hkk := hc.kk
        have hit := hc.len
        repeat' (first | (show WL _ _ _ _ _ _ _; first | refine WL.pure rfl rfl rfl rfl ?_ | refine WL.nil ?_ | refine WL.load hS rfl rfl (LdOk.box Mm rfl) rfl rfl rfl ?_ | (refine WL.calls hS rfl rfl (ddown_c (hS.holds (dkC q mb lb _) Mm).1) rfl rfl rfl ?_; rintro v w rfl hS; rw [hdn]) | (refine WL.callL (D := [dkC q mb lb D]) hS Pu rfl rfl (fun hI => restart_c n hI.head hI.headB hkp (by omega) hkk) rfl rfl rfl ?_; rintro v w ⟨rfl, hm⟩ hS; replace hS := hS _ (.of1 hm); clear hm) | (refine WL.callL (D := [rfC dk D fq]) hS Pu rfl rfl (fun hI => rfrestart_c n hI hkp (by omega)) rfl rfl rfl ?_; rintro v w ⟨rfl, f2, hm⟩ hS; replace hS := hS _ hm; clear hm) | (refine WL.callL (D := [dkC q mb lb _]) hS Pu rfl rfl (fun hI => hto _ hI) rfl rfl rfl ?_; rintro v w ⟨Tp2, f3, rfl, hm⟩ hS; replace hS := hS _ hm; clear hm) | (refine WL.callL (D := [rfC dk _ _]) hS Pu rfl rfl (fun hI => hro _ _ hI) rfl rfl rfl ?_; rintro v w ⟨u2, f4, f6, rfl, hm⟩ hS; replace hS := hS _ hm; clear hm) | (refine WL.callG rfl rfl (begin_c _) rfl rfl rfl ?_; rintro v w ⟨hu, B5, f5, rfl, hn5⟩; replace hS := hS.new hu hn5; clear hu hn5) | refine WL.skip rfl rfl rfl ?_ | ((fail_if_success (refine WL.wanted rfl ?_)); refine WL.guard rfl rfl rfl (fun h => ?_) (fun h => ?_) <;> (try simp only [ZZ0, ZZ1, ZZ2, ZZ3, ZZ4, ZZ5, ZZ6, ZZ7, ZZ8, ZZ9, ZZ10, ZZ11, ZZ12, ZZ13, ZZ14, ZZ15] at h) <;> (try (exfalso; first | omega | contradiction)))) | (show WC _ _ _ _ _ _; first | refine WC.seq ?_ | refine WC.region ?_ | refine WC.skip ?_ | refine WC.condT rfl (by with_reducible rfl) ?_ | refine WC.condF rfl (by with_reducible rfl) ?_ | refine WC.condF rfl (by decide) ?_) | refine seqQ_n ?_)
        all_goals exact endQ_n (D2, T2, [], Tp2, u2, B5, none, 0, f5, f3, f4, f6) ⟨⟨hJ2, BJ.nil⟩, (hS.nilRow 79 3).droplast2 Pu⟩ ⟨rfl, rfl, rfl, rfl, trivial⟩ ⟨rfl, rfl, rfl, rfl, rfl, trivial⟩
      all_goals
        repeat' (first | (show WL _ _ _ _ _ _ _; first | refine WL.pure rfl rfl rfl rfl ?_ | refine WL.nil ?_ | refine WL.load hS rfl rfl (LdOk.box Mm rfl) rfl rfl rfl ?_ | (refine WL.calls hS rfl rfl (ddown_c (hS.holds (dkC q mb lb _) Mm).1) rfl rfl rfl ?_; rintro v w rfl hS; rw [hdn]) | (refine WL.callL (D := [dkC q mb lb _]) hS Pu rfl rfl (fun hI => hto _ hI) rfl rfl rfl ?_; rintro v w ⟨Tp2, f3, rfl, hm⟩ hS; replace hS := hS _ hm; clear hm) | (refine WL.callL (D := [rfC dk _ _]) hS Pu rfl rfl (fun hI => hro _ _ hI) rfl rfl rfl ?_; rintro v w ⟨u2, f4, f6, rfl, hm⟩ hS; replace hS := hS _ hm; clear hm) | (refine WL.callG rfl rfl (begin_c _) rfl rfl rfl ?_; rintro v w ⟨hu, B5, f5, rfl, hn5⟩; replace hS := hS.new hu hn5; clear hu hn5) | refine WL.skip rfl rfl rfl ?_) | (show WC _ _ _ _ _ _; first | refine WC.seq ?_ | refine WC.region ?_ | refine WC.skip ?_ | refine WC.condT rfl (by with_reducible rfl) ?_ | refine WC.condF rfl (by with_reducible rfl) ?_ | refine WC.condF rfl (by decide) ?_) | refine seqQ_n ?_)
        all_goals exact endQ_n (D2, T2, [], Tp2, u2, B5, none, 0, f5, f3, f4, f6) ⟨⟨hJ2, BJ.nil⟩, (hS.nilRow 79 3).droplast2 Pu⟩ ⟨rfl, rfl, rfl, rfl, trivial⟩ ⟨rfl, rfl, rfl, rfl, rfl, trivial⟩
    · rw [he] at hto hro
      have hto : ∀ w, InL w [dkC q mb lb Dr] → Cal Tryz.prog 36 [.pointer (some ⟨q, 0, none⟩), str sysP] w (fun v w' => v = .tuple #[.pointer none, .int .i64 14] ∧ MutL w w' [dkC q mb lb Dr] [dkC q mb lb D2]) := hto
      have hro : ∀ fq w, InL w [rfC dk Dr fq] → Cal Tryz.prog 37 [.pointer (some ⟨dk, 0, none⟩), str sysP] w (fun v w' => v = .tuple #[.pointer none, .int .i64 14] ∧ ∃ fq', MutL w w' [rfC dk Dr fq] [rfC dk D2 fq']) := hro
      clear he
      rcases hcase with ⟨hdn, rfl, hc⟩ | ⟨rfl | rfl, hdn, rfl⟩
      · have hkp := hc.kp2
        have hkk := hc.kk
        have hit := hc.len
        repeat' (first | (show WL _ _ _ _ _ _ _; first | refine WL.pure rfl rfl rfl rfl ?_ | refine WL.nil ?_ | refine WL.load hS rfl rfl (LdOk.box Mm rfl) rfl rfl rfl ?_ | (refine WL.calls hS rfl rfl (ddown_c (hS.holds (dkC q mb lb _) Mm).1) rfl rfl rfl ?_; rintro v w rfl hS; rw [hdn]) | (refine WL.callL (D := [dkC q mb lb D]) hS Pu rfl rfl (fun hI => restart_c n hI.head hI.headB hkp (by omega) hkk) rfl rfl rfl ?_; rintro v w ⟨rfl, hm⟩ hS; replace hS := hS _ (.of1 hm); clear hm) | (refine WL.callL (D := [rfC dk D fq]) hS Pu rfl rfl (fun hI => rfrestart_c n hI hkp (by omega)) rfl rfl rfl ?_; rintro v w ⟨rfl, f2, hm⟩ hS; replace hS := hS _ hm; clear hm) | (refine WL.callL (D := [dkC q mb lb _]) hS Pu rfl rfl (fun hI => hto _ hI) rfl rfl rfl ?_; rintro v w ⟨rfl, hm⟩ hS; replace hS := hS _ hm; clear hm) | (refine WL.callL (D := [rfC dk _ _]) hS Pu rfl rfl (fun hI => hro _ _ hI) rfl rfl rfl ?_; rintro v w ⟨rfl, f6, hm⟩ hS; replace hS := hS _ hm; clear hm) | refine WL.skip rfl rfl rfl ?_ | ((fail_if_success (refine WL.wanted rfl ?_)); refine WL.guard rfl rfl rfl (fun h => ?_) (fun h => ?_) <;> (try simp only [ZZ0, ZZ1, ZZ2, ZZ3, ZZ4, ZZ5, ZZ6, ZZ7, ZZ8, ZZ9, ZZ10, ZZ11, ZZ12, ZZ13, ZZ14, ZZ15] at h) <;> (try (exfalso; first | omega | contradiction)))) | (show WC _ _ _ _ _ _; first | refine WC.seq ?_ | refine WC.region ?_ | refine WC.skip ?_ | refine WC.ret ?_ | refine WC.condT rfl (by with_reducible rfl) ?_ | refine WC.condF rfl (by decide) ?_) | refine seqQ_n ?_ | refine seqQ_r ?_ | refine blkQ_r ?_ | refine rndQ_r ?_ | refine endQ_r ?_)
        all_goals exact fin1r rfl rfl ⟨hS.upd, rfl⟩
      all_goals
        repeat' (first | (show WL _ _ _ _ _ _ _; first | refine WL.pure rfl rfl rfl rfl ?_ | refine WL.nil ?_ | refine WL.load hS rfl rfl (LdOk.box Mm rfl) rfl rfl rfl ?_ | (refine WL.calls hS rfl rfl (ddown_c (hS.holds (dkC q mb lb _) Mm).1) rfl rfl rfl ?_; rintro v w rfl hS; rw [hdn]) | (refine WL.callL (D := [dkC q mb lb _]) hS Pu rfl rfl (fun hI => hto _ hI) rfl rfl rfl ?_; rintro v w ⟨rfl, hm⟩ hS; replace hS := hS _ hm; clear hm) | (refine WL.callL (D := [rfC dk _ _]) hS Pu rfl rfl (fun hI => hro _ _ hI) rfl rfl rfl ?_; rintro v w ⟨rfl, f6, hm⟩ hS; replace hS := hS _ hm; clear hm) | refine WL.skip rfl rfl rfl ?_) | (show WC _ _ _ _ _ _; first | refine WC.seq ?_ | refine WC.region ?_ | refine WC.skip ?_ | refine WC.ret ?_ | refine WC.condT rfl (by with_reducible rfl) ?_ | refine WC.condF rfl (by with_reducible rfl) ?_ | refine WC.condF rfl (by decide) ?_) | refine seqQ_n ?_ | refine seqQ_r ?_ | refine blkQ_r ?_ | refine rndQ_r ?_ | refine endQ_r ?_)
        all_goals exact fin1r rfl rfl ⟨hS.upd, rfl⟩
  clear hO hS
  rintro ⟨D, T, m, Tp, u, B, A2, c2, fb, fp, fu, fq⟩ g3 w ⟨⟨hJ, hB⟩, hS⟩
  show WC _ _ _ (lf _ [(5, .pointer (some ⟨Tp, 0, none⟩)), (7, .pointer (some ⟨u, 0, none⟩)), (9, .pointer (some ⟨B, 0, none⟩)), (10, .slice A2 (m.map Prod.snd).length c2)] _ _) _ _
  obtain ⟨_, ⟨A5, c5, l5, hR5, rfl⟩, hfp5, hS⟩ := St.objOpen (φ := rfφ dk D) (fp := fq) (hS.pull Pl1)
  dsimp only [List.cons_append, List.nil_append] at hS
  have hf := hJ.facts hsz1 (by omega)
  have hfrows := hf.rows
  have hbn := hB.n
  have hok := hB.ok
  have hgn := hB.gone
  have hnd := hf.nd
  repeat' (first | (show WL _ _ _ _ _ _ _; first | refine WL.pure rfl rfl rfl rfl ?_ | refine WL.nil ?_ | refine WL.add rfl rfl rfl (by omega) rfl rfl rfl ?_) | (show WC _ _ _ _ _ _; first | refine WC.seq ?_ | refine WC.region ?_ | refine WC.skip ?_ | (show WC _ _ (Code.region _ (List.toArray [_, _, _, _, _, _, _, _, _, _, _, _, _, _, _, _, _, _, _, _, _, _, _, _, _]) true) _ _ _; refine WC.drawL [bchC B (some ⟨Tp, 0, none⟩) m fb, tabC Tp q T fp, utC u dk T fu] hS Pu [0,1,2,3,4,5,7,8,9,11,12,13,14,15,16,17,18,19,20,21,23,24] [0,1,2,3,4,5,6,7,8,9,11,12,13,14,10,15,16,17,18,19,20,21,22,23,24] (by kernel_rfl) (by kernel_rfl) ?_; clear hS; intro w hS hM) | refine WC.condF rfl (by decide) ?_) | (show WD _ _ _ _ _ _ _ _ _; first | refine WD.pure rfl rfl rfl rfl rfl ?_ | refine WD.nil ?_ | refine WD.load rfl rfl (LdOk.box Mm rfl) rfl rfl rfl rfl ?_ | (have hS2 := hS.pulls (D := [bchC B (some ⟨Tp, 0, none⟩) m fb, tabC Tp q T fp, utC u dk T _]) Pu; refine WD.callL (D := [bchC B (some ⟨Tp, 0, none⟩) m fb, tabC Tp q T fp, utC u dk T _]) hS Pu (by first | exact .refl _ _ | exact .chunk (.refl _ _) _ | exact .chunk (.chunk (.refl _ _) _) _) rfl rfl (fun hI => seen_c _ hI (St.ownSlY (D := [bchC B (some ⟨Tp, 0, none⟩) m fb, tabC Tp q T fp, utC u dk T _]) (enc := cellsChg) (hsz := fun _ => rfl) (l := m.map Prod.snd) (by decide) hS2 Mm) hok hgn (by omega) (by omega) hnd) rfl rfl rfl rfl rfl ?_; rintro v w ⟨rfl, f7, hm⟩; refine ⟨_, hm, fun hS hM => ?_⟩; clear hm) | (refine WD.calls hS hM rfl rfl (dstp_c (hS.holds (dkC q mb lb D) Mm).1) rfl rfl rfl rfl rfl ?_; clear hS; rintro v w rfl hS) | ((fail_if_success (refine WD.wanted rfl ?_)); refine WD.guard rfl rfl rfl (fun h => ?_) (fun h => ?_) <;> (try simp only [ZZ0, ZZ1, ZZ2, ZZ3, ZZ4, ZZ5, ZZ6, ZZ7, ZZ8, ZZ9, ZZ10, ZZ11, ZZ12, ZZ13, ZZ14, ZZ15] at h) <;> (try (exfalso; first | omega | contradiction)))) | refine seqQ_n ?_ | refine blkQ_n ?_)
  have hS := St.objClose (φ := rfφ dk D) (hS.pulls (D := rfL dk A5 c5 l5 D) Pu) ⟨A5, c5, l5, hR5, rfl⟩
  subst hSe
  exact rndQ_n (i + 1, D, T, m, Tp, u, B, A2, c2, fb, fp, _, _) ⟨⟨by omega, by omega, hJ, hB⟩, hS.droplast2 Pu⟩ (by show l.length - (i + 1) < l.length - i; omega) ⟨rfl, rfl, rfl, rfl, vint (by omega), trivial⟩ ⟨rfl, rfl, rfl, trivial⟩
end Go.Proofs.YtccfiohagbneaaaGreatDoor

/- What is proved: the key of TablePlays: the law answers true. Conditions: the statement's own bound on the bulk. -/
namespace Go.Proofs.YtccfiohagbneaaaGreatDoor
open Go Go.J Go.RowKit
def QStp07 (s : Stp07) (b : Nat) : Prop := (-9223372036854775808 ≤ s.n ∧ s.n ≤ 9223372036854775807) ∧ s.key.length + s.text.length + 2 ≤ b
theorem list4T {α : Type} {l : List α} (h : l.length = 4) : ∃ a b c d, l = [a, b, c, d] := by match l, h with | [a, b, c, d], _ => exact ⟨a, b, c, d, rfl⟩
set_option maxRecDepth 100000 in
theorem open_stp07 : Opens Tryz.prog 75 cStp07 QStp07 := by
  intro H enc W fuel cs x h
  obtain ⟨xs, n, _, rfl, hlen, hxl, hf⟩ := DataW.trod_struct Tryz.underlying75 h
  obtain ⟨x0, x1, x2, x3, rfl⟩ := list4T hxl
  obtain ⟨c0, c1, c2, c3, rfl⟩ := list4T (hlen.trans (by kernel_rfl))
  obtain ⟨s0, e0, q0⟩ := Opens.int Tryz.underlying3 enc W n [c0] x0 (hf 0 _ rfl)
  obtain ⟨s1, e1, q1⟩ := Opens.str Tryz.underlying9 enc W n [c1] x1 (hf 1 _ rfl)
  obtain ⟨s2, e2, q2⟩ := Opens.str Tryz.underlying9 enc W n [c2] x2 (hf 2 _ rfl)
  obtain ⟨s3, e3, q3⟩ := Opens.int Tryz.underlying3 enc W n [c3] x3 (hf 3 _ rfl)
  have e0 : [c0] = [.int .i64 s0] := e0
  have e1 : [c1] = [str s1] := e1
  have e2 : [c2] = [str s2] := e2
  have e3 : [c3] = [.int .i64 s3] := e3
  simp only [List.cons.injEq, and_true] at e0 e1 e2 e3
  subst e0 e1 e2 e3
  refine ⟨⟨s0, s1, s2, s3⟩, rfl, ⟨q3.1, q3.2.1⟩, ?_⟩
  simp [Rows.uptoBulk, Rows.uptoBulkAll] at *
  omega
instance : Inhabited Stp07 := ⟨⟨0, [], [], 0⟩⟩
theorem arg_stps07 : Arg Tryz.prog 64 (ASl cStp07) (QL QStp07) := Arg.slice Tryz.underlying64 (Opens.slice Tryz.underlying64 (by kernel_rfl) (by decide) open_stp07)
theorem ql_mem {α : Type} {Q : α → Nat → Prop} {ys : List α} {b : Nat} (h : QL Q ys b) : ∀ y ∈ ys, ∃ n, Q y n := by
  obtain ⟨bs, hl, hq, hs⟩ := h
  intro y hy
  obtain ⟨i, hi, rfl⟩ := List.getElem_of_mem hy
  exact ⟨_, hq i hi (by omega)⟩
theorem tablePlays.key_tablePlays (W : World) (hL : laidMet Tryz.prog Rows.tablePlaysUptoRow.laid W) (v0 : Value) (y0 : List Stp07) (b0 : Nat) (h0 : ASl cStp07 W v0 y0) (q0 : QL QStp07 y0 b0) (hb : b0 ≤ 1048576) :
    Cal Tryz.prog 4 [v0] W (fun v W' => Upd [] W W' ∧ v = .bool true) := by
  obtain ⟨A0, c0, rfl, _, h0⟩ := h0
  have h2 := QL_sum (f := fun s : Stp07 => s.key.length + s.text.length + 2) (fun a b h => h.2) q0
  have h3 : ∀ l : List Stp07, (l.map fun s : Stp07 => s.key.length + s.text.length).sum + l.length ≤ (l.map fun s : Stp07 => s.key.length + s.text.length + 2).sum := by
    intro l
    induction l with
    | nil => exact Nat.le_refl _
    | cons a l ih => simp only [List.map_cons, List.sum_cons, List.length_cons]; omega
  have h4 := h3 y0
  exact tablePlays_c y0 h0 (by omega) fun s hs => by obtain ⟨n, h⟩ := ql_mem q0 s hs; exact h.1
end Go.Proofs.YtccfiohagbneaaaGreatDoor
