import Derived.Test.YtnjoledlgacpeaaNodesC
import Derived.Test.YtnjoledlgacpeaaSortC
import Derived.Test.YtnjoledlgacpeaaRowSort
set_option linter.unusedVariables false
set_option linter.unusedSimpArgs false
/-
  The nodes of a tree, by their names: what a call tells.
-/
namespace Go.Abs.C
open Go Go.Abs Go.RowKit Go.Sort Go.Proofs Go.Proofs.Ytnjoledlgacpeaa

instance : Inhabited NodeR := ⟨⟨[], [], 0, 0⟩⟩
def nodeK : RecK NodeR where
  k := 4
  vals := NodeR.vals
  cells := NodeR.cells
  pos := by decide
  vlen := fun _ => rfl
  clen := fun _ => rfl
  one := fun x v hv => by
    simp [NodeR.vals, strV] at hv
    rcases hv with rfl | rfl | rfl | rfl <;> rfl
  pure_ := fun _ => rfl
  rep := fun g x i v d h1 h2 => by
    match i, h1, h2 with
    | 0, h1, h2 => simp [NodeR.cells, NodeR.vals] at h1 h2; subst h1 h2; exact rep_strV _
    | 1, h1, h2 => simp [NodeR.cells, NodeR.vals] at h1 h2; subst h1 h2; exact rep_strV _
    | 2, h1, h2 => simp [NodeR.cells, NodeR.vals] at h1 h2; subst h1 h2; exact .int _ _
    | 3, h1, h2 => simp [NodeR.cells, NodeR.vals] at h1 h2; subst h1 h2; exact .int _ _
    | k + 4, h1, h2 => simp [NodeR.cells] at h2
  inv := fun g x i v d h h2 => by
    match i, h2 with
    | 0, h2 => simp [NodeR.cells] at h2; subst h2; rw [strV_of h]; rfl
    | 1, h2 => simp [NodeR.cells] at h2; subst h2; rw [strV_of h]; rfl
    | 2, h2 => simp [NodeR.cells] at h2; subst h2; cases h; rfl
    | 3, h2 => simp [NodeR.cells] at h2; subst h2; cases h; rfl
    | k + 4, h2 => simp [NodeR.cells] at h2

theorem node_w {g : Gh} {w : World} {σ : St} (hi : HInv Try.prog g w σ) {d : D} {n : NodeR} (h : nodeAt σ d = some n) {v : Value} (hv : Rep g v d) : NodeW w v n := by
  unfold nodeAt at h
  split at h <;> first | (cases h; done) | skip
  rename_i nd
  split at h <;> first | (cases h; done) | skip
  rename_i a b l u hσ
  cases h
  obtain ⟨_, arr, ty, h1, _, _, h4⟩ := hi.cells nd _ hσ
  cases hv with
  | ptr o off ho =>
    refine ⟨g.μ nd, rfl, fun j u' hu => ?_⟩
    have key : ∀ (i : Nat) (d : D) (u' : Value), [D.str a, .str b, .int .i64 l, .int .i64 u][i]? = some d → (∀ v, Rep g v d → v = u') → w.cell? ⟨g.μ nd, i, none⟩ = some u' := fun i d u' hd hq => by
      obtain ⟨_, v, q1, q2, _⟩ := h4 i d hd
      unfold World.cell?
      simp only [h1]
      rw [if_neg (by simp)]
      rw [q1, hq v q2]
    match j, hu with
    | 0, hu => simp [NodeR.vals] at hu; subst hu; exact key 0 _ _ rfl (fun v h => strV_of h)
    | 1, hu => simp [NodeR.vals] at hu; subst hu; exact key 1 _ _ rfl (fun v h => strV_of h)
    | 2, hu => simp [NodeR.vals] at hu; subst hu; exact key 2 _ _ rfl (fun v h => by cases h; rfl)
    | 3, hu => simp [NodeR.vals] at hu; subst hu; exact key 3 _ _ rfl (fun v h => by cases h; rfl)
    | k + 4, hu => simp [NodeR.vals] at hu

theorem NodeW.alloc {w : World} {v : Value} {n : NodeR} (h : NodeW w v n) (ob : Go.Obj) : NodeW (w.alloc ob) v n := by
  obtain ⟨nb, rfl, h⟩ := h
  refine ⟨nb, rfl, fun j u hu => ?_⟩
  have h1 := h j u hu
  rw [World.cell?_alloc_lt]
  · exact h1
  · unfold World.cell? at h1
    simp only at h1
    cases hb : w.heap[nb]? with
    | none => rw [hb] at h1; cases h1
    | some ob => exact lt_of_heap hb

theorem nodesOf_perm {σ : St} {a b : List (D × D)} (hp : a.Perm b) : ∀ {rs : List NodeR}, nodesOf σ a = some rs → ∃ rs', nodesOf σ b = some rs' ∧ rs.Perm rs' := by
  induction hp with
  | nil => exact fun h => ⟨_, h, .refl _⟩
  | @cons e l l' p ih =>
    intro rs h
    simp only [nodesOf] at h
    split at h <;> first | (cases h; done) | skip
    rename_i n ns h1 h2
    cases h
    obtain ⟨rs', h3, h4⟩ := ih h2
    exact ⟨n :: rs', by simp only [nodesOf, h1, h3], h4.cons _⟩
  | swap x y l =>
    intro rs h
    simp only [nodesOf] at h
    split at h <;> first | (cases h; done) | skip
    rename_i n ns h1 h2
    cases h
    split at h2 <;> first | (cases h2; done) | skip
    rename_i m ms h3 h4
    cases h2
    exact ⟨m :: n :: ms, by simp only [nodesOf, h1, h3, h4], List.Perm.swap _ _ _⟩
  | trans p q ih1 ih2 =>
    intro rs h
    obtain ⟨r1, h1, h2⟩ := ih1 h
    obtain ⟨r2, h3, h4⟩ := ih2 h1
    exact ⟨r2, h3, h2.trans h4⟩
theorem pairs {g : Gh} {w : World} {σ : St} (hi : HInv Try.prog g w σ) : ∀ {es : List (D × D)} {ents : List MapEntry} {rs : List NodeR}, MapRow g ents es → nodesOf σ es = some rs → ∃ zs : List (MapEntry × NodeR), zs.map (·.1) = ents ∧ zs.map (·.2) = rs ∧ ∀ p ∈ zs, NodeW w p.1.val p.2
  | [], ents, rs, hm, h => by
    have := hm.1
    simp at this
    subst this
    simp only [nodesOf, Option.some.injEq] at h
    subst h
    exact ⟨[], rfl, rfl, fun p hp => by simp at hp⟩
  | e :: es, ents, rs, hm, h => by
    obtain ⟨hl, hm⟩ := hm
    match ents, hl with
    | x :: ents, hl =>
      simp only [nodesOf] at h
      split at h <;> first | (cases h; done) | skip
      rename_i n ns h1 h2
      cases h
      obtain ⟨zs, q1, q2, q3⟩ := pairs hi (ents := ents) (es := es) ⟨by simpa using hl, fun i y kd a b => hm (i + 1) y kd (by simpa using a) (by simpa using b)⟩ h2
      refine ⟨(x, n) :: zs, by simp [q1], by simp [q2], fun p hp => ?_⟩
      rcases List.mem_cons.1 hp with rfl | hp
      · exact node_w hi h1 (hm 0 x e rfl rfl).2.1
      · exact q3 p hp

theorem sinv16 {gk : Gh} {w : World} {tm : Array Value} {v3 v12 : Value} {d3 : D} (hs : tm.size = 26) (h3 : tm[3]? = some v3) (hr3 : Rep gk v3 d3) (ho : Own Try.prog gk w (.sbuf 3) v3 d3) (hl : d3.notL = true) (h12 : tm[12]? = some v12) : SInv Try.prog gk w (fr16 d3 (.val v12)) tm := by
  refine ⟨hs, rfl, fun t d hd => ?_, fun t cs hb => ?_⟩
  · have hlt : t < 26 := (List.getElem?_eq_some_iff.1 hd).1
    obtain ⟨u, hu⟩ : ∃ u, tm[t]? = some u := ⟨_, Array.getElem?_eq_getElem (by omega)⟩
    by_cases h : t = 3
    · subst h
      have : d = d3 := by simpa [fr16] using hd.symm
      subst this
      exact ⟨v3, h3, hr3, ho, fun s off e => by subst e; cases hl⟩
    · by_cases h' : t = 12
      · subst h'
        have : d = .val v12 := by simpa [fr16] using hd.symm
        subst this
        exact ⟨v12, h12, .val _, .of_ne rfl, fun s off e => by cases e⟩
      · have : d = .junk := by
          have hall : ∀ (t : Nat), t < 26 → t ≠ 3 → t ≠ 12 → (fr16 d3 (.val v12)).slots[t]? = some .junk := by
            intro t
            match t with
            | 0 | 1 | 2 | 4 | 5 | 6 | 7 | 8 | 9 | 10 | 11 | 13 | 14 | 15 | 16 | 17 | 18 | 19 | 20 | 21 | 22 | 23 | 24 | 25 => intros; rfl
            | 3 => intro _ h _; exact absurd rfl h
            | 12 => intro _ _ h; exact absurd rfl h
            | t + 26 => intro h; omega
          rw [hall t hlt h h'] at hd
          exact (Option.some.inj hd).symm
        subst this
        exact ⟨u, hu, .junk _, .of_ne rfl, fun s off e => by cases e⟩
  · have : (fr16 d3 (.val v12)).boxes[t]? ≠ some (some cs) := by
      intro h
      have := List.mem_of_getElem? h
      simp [fr16] at this
    exact absurd hb this
theorem rep_empty {g g' : Gh} {v : Value} {own own' : Option Nat} (h : Rep g v (.sl [] own)) : Rep g' v (.sl [] own') := by
  cases h with
  | sl a len cap b off esz es own V hl hc hn ha he hI hR =>
    exact .sl a len cap b off esz [] own' V hl hc hn ha (fun e h => by simp at h) (fun i e j d h => by simp at h) (fun i e j d h => by simp at h)
/-- All that is new is there to stay. -/
def Gh.after (g : Gh) (w W : World) : Gh := { g with I := fun b off => if b < w.heap.size then g.I b off else W.cell? ⟨b, off, none⟩ }
section
variable {P : Program} {g : Gh} {w W : World} {fr : Fr} {σ : St} {a : Act}
theorem keep_after (hi : HInv P g w σ) (hs : w.heap.size ≤ W.heap.size) (hb : ∀ b, b < w.heap.size → W.heap[b]? = w.heap[b]?) : Keep g w (Gh.after g w W) W (fun _ => False) :=
  ⟨⟨fun b off v h => by simp only [Gh.after, if_pos (imm_lt hi h)]; exact h, Nat.le_refl _, fun _ _ => rfl, fun _ _ => rfl⟩, hs, fun b hlt _ => ⟨hb b hlt, rfl, fun off => by simp only [Gh.after, if_pos hlt]⟩⟩
theorem inv_after (i : Inv P g w fr σ a) (hs : w.heap.size ≤ W.heap.size) (hb : ∀ b, b < w.heap.size → W.heap[b]? = w.heap[b]?) : Inv P (Gh.after g w W) W fr σ a :=
  i.keep (keep_after i.h hs hb) (fun _ hc => hc.elim) (fun _ _ _ => rfl) (fun b off v h => by
    simp only [Gh.after] at h
    split at h
    · rename_i hlt
      have := i.h.imm b off v h
      unfold World.cell? at this ⊢
      simp only [hb b hlt] at this ⊢
      exact this
    · exact h) rfl
theorem ext_after (hi : HInv P g w σ) (hs : w.heap.size ≤ W.heap.size) (hb : ∀ b, b < w.heap.size → W.heap[b]? = w.heap[b]?) (os : W.os = w.os) (tape : W.tape = w.tape) (output : W.output = w.output) : Ext g w (Gh.after g w W) W :=
  Ext.of_keep (keep_after hi hs hb) (fun _ hc => hc.elim) os tape output rfl
end
end Go.Abs.C

/-
  The nodes of a tree, by their names: the walk, whole.
-/
namespace Go.Abs.C
open Go Go.Abs Go.RowKit Go.Sort Go.Proofs Go.Proofs.Ytnjoledlgacpeaa

theorem e25 : Enters Try.prog 25 := ⟨Try.f25, Try.f25.body.getD .skip, Try.func25, by kernel_rfl, by kernel_rfl⟩
theorem e26 : Enters Try.prog 26 := ⟨Try.f26, Try.f26.body.getD .skip, Try.func26, by kernel_rfl, by kernel_rfl⟩
theorem isAgg46 : ∀ w, (isAgg (sortN_ren.t 24)).run Try.prog w = .ok true w := Try.isAgg46
theorem sizeOf46 : ∀ w, (Go.sizeOf (sortN_ren.t 24)).run Try.prog w = .ok 4 w := Try.sizeOf46
theorem sort25 (d : Array NodeR) (blk cap : Nat) (w : World) (hH : HoldsK NodeR.vals 4 w blk 0 d) (hblk : blk < w.heap.size) (hsz : d.size < 4611686018427387904) :
    Calls Try.prog 25 #[.slice (some ⟨blk, 0, none⟩) d.size cap, .func (.func 26) #[] #[]] w fun e w' =>
      e = .returned (.tuple #[]) ∧ ∃ d' n os, PermIn 0 d.size d d' ∧ SortedIn (ltOf fun a b : NodeR => cmpB' a.name b.name) 0 d.size d' ∧ w' = sortWorldK NodeR.vals 4 w blk 0 n d' os :=
  AnyQ.slices_SortFunc sortN 4 isAgg46 sizeOf46 NodeR.vals nodeK.vlen nodeK.one (fun a b : NodeR => cmpB' a.name b.name) (swo_key NodeR.name) 26 #[] blk 0 cap d w (fun args w => Go.Abs.enter_run e26 args w)
    (fun m os dk hdk x y => by
      have := clos26 x.vals y.vals ⟨⟨x.name⟩⟩ ⟨⟨y.name⟩⟩ rfl rfl rfl rfl (nodeK.one x) (nodeK.one y) (sortWorldK NodeR.vals 4 w blk 0 m dk os)
      have e1 : (ByteArray.mk ⟨x.name⟩).toList = x.name := by rw [Lib.toList_data]
      have e2 : (ByteArray.mk ⟨y.name⟩).toList = y.name := by rw [Lib.toList_data]
      rw [e1, e2] at this
      exact this) hH hblk hsz

def frA (d0 d3 : D) : Fr := ⟨[d0, .junk, .junk, d3, .junk, .junk, .junk, .junk, .junk, .junk, .junk, .junk, .junk, .junk, .junk, .junk, .junk, .junk, .junk, .junk, .junk, .junk, .junk, .junk, .junk, .junk], [none, none, none, none, none, none, none, none, none, none, none, none, none, none, none, none, none, none, none, none, none, none, none, none, none, none], []⟩
theorem nt16 : Try.f16.ntmps = 26 := by kernel_rfl
theorem rs16 : resTmps Try.prog Try.f16.results.toList = some [.tmp 2] := by kernel_rfl
theorem run16_4 {σ : St} {ot m : Nat} {cs : List D} (h : σ[ot]? = some (.cells (.map m :: cs))) (d3 : D) :
    runOps noCal false c16_4 (frA (.ptr ot 0) d3) σ = some (((((frA (.ptr ot 0) d3).put (some 8) (.ptr ot 0)).put (some 9) (.ptr ot 0)).put (some 10) (.ptr ot 0)).put (some 11) (.map m), σ) := by
  simp [c16_4, frA, runOps, runOp, wantedD, evalOp, Fr.val, Fr.at, Fr.put, Fr.set, cellsAt, D.strip, h]
theorem eval_slot {P : Program} {g : Gh} {w : World} {fr : Fr} {σ : St} {a : Act} (i : Inv P g w fr σ a) {t : Nat} {v : Value} (h : fr.slots[t]? = some (.val v)) : a.tmps[t]? = some v ∧ a.eval (.tmp t) = v := by
  obtain ⟨u, q1, q2, _, _⟩ := i.s.slots t _ h
  cases q2
  exact ⟨q1, by simp [Act.eval, q1]⟩
theorem slot_eval {P : Program} {g : Gh} {w : World} {fr : Fr} {σ : St} {a : Act} (i : Inv P g w fr σ a) {t : Nat} {d : D} (h : fr.slots[t]? = some d) : Rep g (a.eval (.tmp t)) d ∧ Own P g w (.sbuf t) (a.eval (.tmp t)) d ∧ a.tmps[t]? = some (a.eval (.tmp t)) := by
  obtain ⟨u, q1, q2, q3, _⟩ := i.s.slots t _ h
  have : a.eval (.tmp t) = u := by simp [Act.eval, q1]
  rw [this]
  exact ⟨q2, q3, q1⟩
theorem size_put (a : Act) (o : Option Tmp) (v : Value) : (a.put o v).tmps.size = a.tmps.size := by
  cases o <;> simp [Act.put]
theorem nodes_nil {g : Gh} {w : World} {σ : St} (hi : HInv Try.prog g w σ) (hbase : g.base = []) {v0 : Value} (hr : Rep g v0 .nilp) :
    Calls Try.prog 16 #[v0] w (fun e w' => ∃ v, e = .returned v ∧ Gives Try.prog g w w' σ v (.sl [] (some 46))) := by
  refine (callsIn_wide (n := 0)).1 (callsIn_of_wp Try.func16 body16 trivial ?_ rfl)
  rw [nt16]
  have hra : AllRep (Rep g) (#[v0] : Array Value).toList [D.nilp] := ⟨rfl, fun i v d h1 h2 => by
    cases i with
    | zero => simp at h1 h2; subst h1 h2; exact hr
    | succ i => simp at h2⟩
  have i0 := enter_inv (m := ⟨1, 26, [], .skip⟩) (nt := 26) rfl hi hbase hra rfl rfl (show (1 : Nat) ≤ 26 by decide)
  rw [show enterFr ⟨1, 26, [], .skip⟩ [D.nilp] = frA .nilp .junk from rfl] at i0
  refine wpIn_seq (wide_code hmix noCal_ok noCal_in comp16_a 0 (ae := .normal) (fr' := _) (σ' := σ) rfl i0 (fun a1 w1 g1 e1 i1 => ?_))
  refine wpIn_seq (wide_code hmix noCal_ok noCal_in comp16_ba 0 (ae := .ret) (fr' := _) (σ' := σ) rfl i1 (fun a2 w2 g2 e2 i2 => ?_))
  obtain ⟨v, r1, g3, e3, r3⟩ := results_ok i2 rs16 (d := .sl [] (some 46)) (σ' := σ) rfl
  exact ⟨defers_nil i2 (e2.base.trans (e1.base.trans hbase)) rfl, v, r1, v, rfl, g3, (e1.trans e2).trans e3, r3⟩
theorem nodes_main {g : Gh} {w : World} {σ : St} (hi : HInv Try.prog g w σ) (hbase : g.base = []) {v0 : Value} {ot : Nat} {es : List (D × D)} {rs : List NodeR} (hr : Rep g v0 (.ptr ot 0)) (hes : mapAt σ ot 0 = some es) (hrs : nodesOf σ es = some rs) (hnd : (rs.map NodeR.name).Nodup) (hlen : rs.length < 1000000) :
    Calls Try.prog 16 #[v0] w (fun e w' => ∃ v, e = .returned v ∧ Gives Try.prog g w w' σ v (.sl ((sortK NodeR.name rs).map NodeR.cells) none)) := by
  obtain ⟨cs, m, hσt, hcs, hσm⟩ := mapAt_some hes
  obtain ⟨cs', rfl⟩ : ∃ c, cs = .map m :: c := by
    cases cs with
    | nil => simp at hcs
    | cons x c => simp at hcs; exact ⟨c, by rw [hcs]⟩
  refine (callsIn_wide (n := 0)).1 (callsIn_of_wp Try.func16 body16 trivial ?_ rfl)
  rw [nt16]
  have hra : AllRep (Rep g) (#[v0] : Array Value).toList [D.ptr ot 0] := ⟨rfl, fun i v d h1 h2 => by
    cases i with
    | zero => simp at h1 h2; subst h1 h2; exact hr
    | succ i => simp at h2⟩
  have i0 := enter_inv (m := ⟨1, 26, [], .skip⟩) (nt := 26) rfl hi hbase hra rfl rfl (show (1 : Nat) ≤ 26 by decide)
  rw [show enterFr ⟨1, 26, [], .skip⟩ [D.ptr ot 0] = frA (.ptr ot 0) .junk from rfl] at i0
  refine wpIn_seq (wide_code hmix noCal_ok noCal_in comp16_a 0 (ae := .normal) (fr' := _) (σ' := σ) rfl i0 (fun a1 w1 g1 e1 i1 => ?_))
  refine wpIn_seq (wide_code hmix noCal_ok noCal_in comp16_ba 0 (ae := .normal) (fr' := _) (σ' := σ) rfl i1 (fun a2 w2 g2 e2 i2 => ?_))
  replace i2 := i2.clear [0]
  change Inv Try.prog g2 w2 (frA (.ptr ot 0) .junk) σ a2 at i2
  refine wpIn_seq (wpIn_region_list ?_)
  rw [ops16_b]
  refine wide_value (w' := w2) (v := .slice none 0 0) op16_b.2.1 (by simp [execOp, op16_b.1, Act.eval, Sem.run]) ?_
  rw [op16_b.2.2]
  unfold wpListIn
  have i3 := i2.put (some 3) (d := .val (.slice none 0 0)) (.val (.slice none 0 0)) (fun _ _ => .of_ne rfl) (fun s off e => by cases e)
  change Inv Try.prog g2 w2 (frA (.ptr ot 0) (.val (.slice none 0 0))) σ _ at i3
  refine wpIn_seq (wpIn_seq (wpIn_region_list ?_))
  rw [ops16_4]
  refine wide_pre (q := false) noCal_ok noCal_in _ _ (noDefer_of (by kernel_rfl : noDefer #[opAt R16 0, opAt R16 1, opAt R16 2, opAt R16 3] = true)) comp16_4 (run16_4 hσt _) i3 (fun a4 w4 g4 e4 i4 => ?_)
  obtain ⟨hω, ents, clock, hbm, hmr, hborn⟩ := i4.h.maps m es hσm
  have v11 : a4.eval (.tmp 11) = .map (some (g4.μ m)) := by
    have := (slot_eval i4 (t := 11) (d := .map m) rfl).1
    generalize a4.eval (.tmp 11) = v at this
    cases this
    rfl
  refine wide_value (w' := w4.alloc (.mapIter (some (g4.μ m)) clock #[] clock)) (v := .pointer (some ⟨w4.heap.size, 0, none⟩)) op16_4.2.1 (by simp only [execOp, op16_4.1, v11, Sem.run_bind, run_range_map w4 62 9 66 (g4.μ m) ents clock und62 hbm, Result.andThen]; rfl) ?_
  rw [op16_4.2.2]
  unfold wpListIn
  have hbmlt := lt_of_heap hbm
  have hbase4 : g4.base = [] := e4.base.trans (e2.base.trans (e1.base.trans hbase))
  have v3 : a4.tmps[3]? = some (.slice none 0 0) := (eval_slot i4 (t := 3) rfl).1
  have hsz4 : a4.tmps.size = 26 := i4.s.size
  obtain ⟨es', hpm, _, hmr⟩ := hmr
  obtain ⟨rs', hrs', hprs⟩ := nodesOf_perm hpm hrs
  obtain ⟨zs, hz1, hz2, hzW⟩ := pairs i4.h hmr hrs'
  have hzl : zs.length = rs.length := by rw [hprs.length_eq, ← hz2]; simp
  let r := w4.heap.size
  let w5 := w4.alloc (.mapIter (some (g4.μ m)) clock #[] clock)
  let a5 := a4.put (some 12) (.pointer (some ⟨r, 0, none⟩))
  have h5r : w5.heap[r]? = some (.mapIter (some (g4.μ m)) clock #[] clock) := heap_new w4 _
  have i5 : Inv Try.prog (g4.calm w5 r) w5 (fr16 (.sl [] (some 46)) (.val (.pointer (some ⟨r, 0, none⟩)))) [] a5 := by
    refine ⟨HInv.calm g4 w5 r, sinv16 (v3 := .slice none 0 0) (by rw [size_put]; exact hsz4) (by simp [a5, Act.put, v3]) ?_ (fun es e hd => ?_) rfl (by simp [a5, Act.put, hsz4]), ?_⟩
    · exact .sl none 0 0 0 0 0 [] (some 46) (fun _ _ => .nilFunc) rfl (Nat.le_refl _) (fun _ => rfl) (fun h => absurd rfl h) (fun e h => by simp at h) (fun i e j d h => by simp at h) (fun i e j d h => by simp at h)
    · cases hd
      exact .inl ⟨rfl, rfl⟩
    · have hd4 : a4.defers = [] := defers_nil i4 hbase4 rfl
      exact ⟨[], by show a4.defers = [] ++ (g4.calm w5 r).base; rw [hd4]; show [] = g4.base; rw [hbase4], rfl, fun k x y h => by simp at h⟩
  refine wpIn_block (wpIn_loop_rounds (rs.length + 1) (loop16 (g0 := g4) (wz := w5) (r := r) (bm := g4.μ m) (ents := ents) (clock := clock) (zs := zs) hz1 hborn (fun p hp => (hzW p hp).alloc _) (by omega) ((heap_old w4 _ hbmlt).trans hbm) (Nat.ne_of_lt hbmlt) (fun off => cell_iter h5r off) ?_ (rs.length + 1) (vz := []) (lz := zs) (seen := #[]) (by omega) (by simp) rfl
    (ExtBut.refl' _ _) i5 ⟨⟨clock, Nat.le_refl _, h5r⟩, rfl⟩))
  intro A W gk vz hp eX iX hitX
  obtain ⟨q3, o3, t3⟩ := slot_eval iX (t := 3) (d := .sl (vz.map (·.2.cells)) (some 46)) rfl
  have hs45 : w4.heap.size ≤ w5.heap.size := by show _ ≤ (w4.alloc _).heap.size; simp
  have hold : ∀ b, b < w4.heap.size → W.heap[b]? = w4.heap[b]? := fun b hb => ((eX.blk b (Nat.lt_of_lt_of_le hb hs45) rfl).1 (Nat.ne_of_lt hb)).trans (heap_old w4 _ hb)
  have hsW : w4.heap.size ≤ W.heap.size := Nat.le_trans hs45 eX.size
  have hperm : (vz.map (·.2)).Perm rs := (by rw [← hz2]; exact (hp.map (·.2)).symm : (vz.map (·.2)).Perm rs').trans hprs.symm
  have hl : vz.map (·.2.cells) = (vz.map (·.2)).map nodeK.cells := by rw [List.map_map]; rfl
  rw [hl] at q3 o3
  generalize vz.map (·.2) = l at hperm q3 o3
  have hAd : A.defers = [] := defers_nil iX (eX.base.trans hbase4) rfl
  have hAs : A.tmps.size = 26 := iX.s.size
  have e04 : Ext g w g4 w4 := (e1.trans e2).trans e4
  have fin : ∀ (W2 : World) (A2 : Act) (v : Value), W.heap.size ≤ W2.heap.size → (∀ b, b < w4.heap.size → W2.heap[b]? = W.heap[b]?) → W2.os = W.os → W2.tape = W.tape → W2.output = W.output → A2.defers = [] → A2.tmps.size = 26 → A2.tmps[3]? = some v →
      Rep (Gh.after g4 w4 W2) v (.sl ((sortK NodeR.name rs).map NodeR.cells) none) →
      (sqB T16).wpIn Fence.wide 0 Try.prog (bodyPost Try.prog Try.f16 (fun e w' => ∃ v, e = .returned v ∧ Gives Try.prog g w w' σ v (.sl ((sortK NodeR.name rs).map NodeR.cells) none))) A2 W2 := by
    intro W2 A2 v h1 h2 h3 h4 h5 h6 h7 h8 h9
    have hs2 : w4.heap.size ≤ W2.heap.size := Nat.le_trans hsW h1
    have hb2 : ∀ b, b < w4.heap.size → W2.heap[b]? = w4.heap[b]? := fun b hb => (h2 b hb).trans (hold b hb)
    obtain ⟨v12, hv12⟩ : ∃ u, A2.tmps[12]? = some u := ⟨_, Array.getElem?_eq_getElem (by omega)⟩
    have iF : Inv Try.prog (Gh.after g4 w4 W2) W2 (fr16 (.sl ((sortK NodeR.name rs).map NodeR.cells) none) (.val v12)) σ A2 :=
      ⟨(inv_after i4 hs2 hb2).h, sinv16 h7 h8 h9 (.of_ne rfl) rfl hv12, [], by rw [h6]; show [] = g4.base; rw [hbase4], rfl, fun k x y h => by simp at h⟩
    refine wide_code hmix noCal_ok noCal_in comp16_tail 0 (ae := .ret) (fr' := _) (σ' := σ) rfl iF (fun a7 w7 g7 e7 i7 => ?_)
    obtain ⟨u, r1, g8, e8, r8⟩ := results_ok i7 rs16 (d := .sl ((sortK NodeR.name rs).map NodeR.cells) none) (σ' := σ) rfl
    have e48 := ext_after i4.h hs2 hb2 (h3.trans eX.os) (h4.trans eX.tape) (h5.trans eX.output)
    exact ⟨defers_nil i7 (e7.base.trans hbase4) rfl, u, r1, u, rfl, g8, ((e04.trans e48).trans e7).trans e8, r8⟩
  have goal : (Code.seq (.region (idB (sqA T16)) (opsB (sqA T16)) false) (sqB T16)).wpIn Fence.wide 0 Try.prog (bodyPost Try.prog Try.f16 (fun e w' => ∃ v, e = .returned v ∧ Gives Try.prog g w w' σ v (.sl ((sortK NodeR.name rs).map NodeR.cells) none))) A W := by
    refine wpIn_seq (wpIn_region_list ?_)
    rw [ops16_7]
    generalize A.eval (.tmp 3) = v3 at q3 o3 t3
    refine wide_value (w' := W) (v := v3) op16_7.2.1 (by simp [execOp, op16_7.1, Sem.run, Act.eval, t3]) ?_
    rw [op16_7.2.2]
    have ht23 : (A.put (some 23) v3).eval (.tmp 23) = v3 := by simp [Act.eval, Act.put, hAs]
    have hrun : (execOp (A.put (some 23) v3).eval (opAt (sqA T16) 1)).run Try.prog W = .ok (.enter 25 #[v3, .func (.func 26) #[] #[]]) W := by
      simp only [execOp, op16_8.1, resolve]
      have : Deferred.ofValue ((A.put (some 23) v3).eval (.func 25)) ((#[.tmp 23, .func 26] : Array Operand).map (A.put (some 23) v3).eval) = pure { target := .fn (.func 25) #[], args := #[v3, .func (.func 26) #[] #[]] } := by
        have h2 : (A.put (some 23) v3).eval (.func 26) = .func (.func 26) #[] #[] := rfl
        simp [ht23, h2, Deferred.ofValue, Act.eval]
        simp [Act.put, hAs]
      rw [this]
      simp only [pure_bind, invoke, Array.append_empty, Array.empty_append]
      exact Go.Abs.enter_run e25 _ _
    have hput : ∀ u : Value, (((A.put (some 23) v3).put (some 24) u).defers = [] ∧ ((A.put (some 23) v3).put (some 24) u).tmps.size = 26 ∧ ((A.put (some 23) v3).put (some 24) u).tmps[3]? = some v3) := fun u => ⟨hAd, by simp [Act.put, hAs], by simp [Act.put, t3]⟩
    by_cases hne : l = []
    · subst hne
      obtain ⟨p, cap, rfl⟩ := own_nil q3
      have hrs0 : rs = [] := by simpa using hperm.symm
      subst hrs0
      refine wide_enter op16_8.2.1 hrun (AnyF.slices_SortFunc_none sortN p cap (.func (.func 26) #[] #[]) W) (fun e w2 he => ?_)
      obtain ⟨rfl, rfl⟩ := he
      refine ⟨_, rfl, ?_⟩
      rw [op16_8.2.2]
      unfold wpListIn
      obtain ⟨k1, k2, k3⟩ := hput (.tuple #[])
      exact fin w2 _ _ (Nat.le_refl _) (fun _ _ => rfl) rfl rfl rfl k1 k2 k3 (rep_empty q3)
    · obtain ⟨gb, cap, rfl, hcap, hωb, hgb, hH, cur, hcur⟩ := own_holds hne (fun b off u h => iX.h.imm b off u h) q3 o3
      have hgb4 : w4.heap.size ≤ gb := by
        rcases Nat.lt_or_ge gb w4.heap.size with h | h
        · exfalso
          have := (eX.blk gb (Nat.lt_of_lt_of_le h hs45) rfl).2
          rw [hωb] at this
          cases this
        · exact h
      have hsz : l.toArray.size < 4611686018427387904 := by
        have := hperm.length_eq
        simp only [List.size_toArray]
        omega
      refine wide_enter op16_8.2.1 hrun (sort25 l.toArray gb cap W hH hgb hsz) (fun e w2 he => ?_)
      obtain ⟨rfl, d', n, os, hP, hS, rfl⟩ := he
      refine ⟨_, rfl, ?_⟩
      rw [op16_8.2.2]
      unfold wpListIn
      obtain ⟨k1, k2, k3⟩ := hput (.tuple #[])
      have hd' : d'.toList = sortK NodeR.name rs := by
        refine sortK_of_sorted (d := l.toArray) hnd (by simpa using hperm) hP ?_
        rw [ltOf_cmpB] at hS
        exact hS
      refine fin _ _ _ sort_size (fun b hb => sort_heap (Nat.lt_of_lt_of_le hb hsW) (by omega)) rfl rfl rfl k1 k2 k3 ?_
      rw [← hd', ← hP.1]
      refine rep_holds (K := nodeK) (by rw [hP.1]; simpa using hcap) (fun off u hu => ?_) (holdsK_sortWorldK_c NodeR.vals 4 W gb 0 l.toArray d' n os hH hgb hP.1)
      simp only [Gh.after, if_neg (Nat.not_lt.2 hgb4)]
      exact hu
  exact goal
end Go.Abs.C

/-
  Functions that are told by what they answer.
-/
namespace Go.Abs
open Go Go.RowKit
/-- A function that reads alone, told by what it answers. -/
def toldF (k : Nat) (F : List D → St → Option D) : MFunc := ⟨k, k + 1, [.tmp k], .nat fun fr σ => (F (fr.slots.take k) σ).map fun d => (.ret, fr.set k d, σ)⟩
theorem allRep_strip {g : Gh} : ∀ {vs : List Value} {ds : List D}, AllRep (Rep g) vs ds → AllRep (Rep g) vs (ds.map D.strip) := fun {vs ds} h =>
  ⟨by simpa using h.1, fun i v d h1 h2 => by
    simp only [List.getElem?_map, Option.map_eq_some_iff] at h2
    obtain ⟨d0, h2, rfl⟩ := h2
    exact (h.2 i v d0 h1 h2).strip⟩
theorem good_told {P : Program} {f : FuncId} {fn : Func} {c : Code} {k : Nat} {F : List D → St → Option D} (hf : P.funcs[f]? = some fn) (hb : fn.body = some c)
    (h : ∀ (ds : List D) (σ : St) (d : D), F ds σ = some d → d.bare = d ∧ d.notL = true ∧ ∀ (g : Gh) (w : World) (vals : Array Value), HInv P g w σ → (∀ b, hideF (g.ω b) = g.ω b) → AllRep (Rep g) vals.toList ds → g.base = [] → Calls P f vals w (fun e w' => ∃ v, e = .returned v ∧ Gives P g w w' σ v d)) : GoodT P f (toldF k F) := by
  refine ⟨fn, c, hf, hb, rfl, fun cal fuel _ _ ds σ fr σ1 hrun _ d σ' hro g w vals hi hide hr hn hbase => ?_⟩
  unfold runBody at hrun
  split at hrun
  · rename_i hcond
    obtain ⟨c1, c2⟩ := hcond
    simp only [toldF, runC] at hrun
    have htake : (enterFr (toldF k F) ds).slots.take k = ds.map D.strip := by
      have hl : (ds.map D.strip).length = k := by simpa [toldF] using c1
      simp only [enterFr]
      rw [List.take_append_of_le_length (by omega), List.take_of_length_le (by omega)]
    rw [show (enterFr ⟨k, k + 1, [.tmp k], .nat fun fr σ => (F (fr.slots.take k) σ).map fun d => (.ret, fr.set k d, σ)⟩ ds) = enterFr (toldF k F) ds from rfl, htake] at hrun
    cases hF : F (ds.map D.strip) σ with
    | none => rw [hF] at hrun; cases hrun
    | some d0 =>
      rw [hF] at hrun
      simp only [Option.map_some, Option.some.injEq, Prod.mk.injEq] at hrun
      obtain ⟨rfl, rfl⟩ := hrun
      obtain ⟨q1, q2, q3⟩ := h _ _ _ hF
      have hat : ((enterFr (toldF k F) ds).set k d0).at k = d0 := by
        have hl : ds.length = k := by simpa [toldF] using c1
        have hlt : k < (enterFr (toldF k F) ds).slots.length := by
          simp [enterFr, toldF, hl]
        simp only [Fr.at, Fr.set]
        rw [List.getD_eq_getElem?_getD, List.getElem?_set, if_pos rfl, if_pos hlt]
        rfl
      have hres : resD ((enterFr (toldF k F) ds).set k d0) σ (.tmp k) = some d0 := by
        simp only [resD, hat, q1]
      have : resultOf ((enterFr (toldF k F) ds).set k d0) σ (toldF k F).results = some (d0, σ) := by
        show resultOf ((enterFr (toldF k F) ds).set k d0) σ [.tmp k] = some (d0, σ)
        simp only [resultOf, hres]
        cases d0 <;> first | rfl | cases q2
      rw [this] at hro
      cases hro
      exact q3 g w vals hi hide (allRep_strip hr) hbase
  · cases hrun
end Go.Abs
namespace Go.Abs.C
open Go Go.Abs Go.RowKit Go.Sort Go.Proofs Go.Proofs.Ytnjoledlgacpeaa
/-- Nodes. -/
def nodesF : List D → St → Option D
  | [.nilp], _ => some (.sl [] (some 46))
  | [.ptr ot 0], σ =>
    match mapAt σ ot 0 with
    | some es =>
      match nodesOf σ es with
      | some rs => if (rs.map NodeR.name).Nodup ∧ rs.length < 1000000 then some (.sl ((sortK NodeR.name rs).map NodeR.cells) none) else none
      | none => none
    | none => none
  | _, _ => none
def m16 : MFunc := toldF 1 nodesF
theorem vals_one {g : Gh} {vals : Array Value} {d : D} (h : AllRep (Rep g) vals.toList [d]) : ∃ v, vals = #[v] ∧ Rep g v d := by
  obtain ⟨h1, h2⟩ := h
  obtain ⟨vs⟩ := vals
  match vs, h1 with
  | [v], _ => exact ⟨v, rfl, h2 0 v d rfl rfl⟩
theorem good16 : GoodT Try.prog 16 m16 := by
  refine good_told Try.func16 body16 (fun ds σ d h => ?_)
  unfold nodesF at h
  split at h
  · cases h
    refine ⟨rfl, rfl, fun g w vals hi hide hr hbase => ?_⟩
    obtain ⟨v, rfl, hv⟩ := vals_one hr
    exact nodes_nil hi hbase hv
  · split at h <;> first | (cases h; done) | skip
    rename_i es h1
    split at h <;> first | (cases h; done) | skip
    rename_i rs h2
    split at h <;> first | (cases h; done) | skip
    rename_i h3
    cases h
    refine ⟨rfl, rfl, fun g w vals hi hide hr hbase => ?_⟩
    obtain ⟨v, rfl, hv⟩ := vals_one hr
    exact nodes_main hi hbase hv h1 h2 h3.1 h3.2
  · cases h
end Go.Abs.C
