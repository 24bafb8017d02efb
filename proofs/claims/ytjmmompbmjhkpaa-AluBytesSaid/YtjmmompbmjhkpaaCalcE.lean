/- The calculus, part 14: each operation that 'comp' takes does what 'stepA' tells. No condition beyond those in each lemma. -/
import Derived.Test.YtjmmompbmjhkpaaCalcR
namespace Go.Proofs.Ytjmmompbmjhkpaa.Calc
open Go
set_option linter.unusedSimpArgs false
variable {X : Nat → Prop}
section
variable {P : Program} {w : World} {ι : List Place} {h : List Blk} {bl : Nat → Option Blk} {c : Nat} {x : V} {ups : List (Nat × Blk)} {news : List Blk} {R : List Nat}

theorem Ok.value {s : Sem Next} (H : HRel X w ι h) {cv : Value} (hr : s.run P w = .ok (.value cv) w) (hx : Rel w (OX X ι) ι cv x) : Ok X P w ι s x h :=
  ⟨_, cv, w, ι, hr, .inl rfl, H, hx, Frm.refl _ _, Refs.refl _⟩

theorem bind_some {α β : Type} {x : Option α} {f : α → Option β} {b : β} (h : (x >>= f) = some b) : ∃ a, x = some a ∧ f a = some b := by
  cases x with
  | none => cases h
  | some a => exact ⟨a, rfl, h⟩

theorem step_sound {o : Oper} {op : AOp} {sl : Nat → V} {a : Act} (hc : comp P o.op = some op) (H : HRel X w ι h) (hs : SlRel X w ι sl a)
    (hst : stepA op (AO.ev sl) bl c = some (x, ups, news, R)) (hbl : ∀ b ∈ R, bl b = h[b]?) (hnew : ∀ i, i < news.length → ∃ k, h[c + i]? = some k ∧ k.ver = 0) :
    Ok X P w ι (execOp a.eval o) x (appN (appU h ups) c news) := by
  unfold execOp
  cases ho : o.op with
  | move xo =>
    rw [ho] at hc; simp only [comp] at hc
    obtain ⟨y, h1, rfl⟩ := Option.map_eq_some_iff.1 hc
    simp only [stepA] at hst
    obtain ⟨h2, rfl, rfl⟩ := pureS_eq hst
    cases h2
    exact Ok.value H rfl (AO.ev_rel hs h1)
  | assign xo =>
    rw [ho] at hc; simp only [comp] at hc
    obtain ⟨y, h1, rfl⟩ := Option.map_eq_some_iff.1 hc
    simp only [stepA] at hst
    obtain ⟨h2, rfl, rfl⟩ := pureS_eq hst
    cases h2
    exact Ok.value H rfl (AO.ev_rel hs h1)
  | pick co ao bo =>
    rw [ho] at hc; simp only [comp] at hc
    obtain ⟨c', h1, hc⟩ := bind_some hc
    obtain ⟨a', h2, hc⟩ := bind_some hc
    obtain ⟨b', h3, hc⟩ := bind_some hc
    cases hc
    simp only [stepA] at hst
    obtain ⟨h4, rfl, rfl⟩ := pureS_eq hst
    split at h4
    · rename_i t e1
      cases h4
      have hcv := AO.ev_rel hs h1
      rw [e1] at hcv
      refine Ok.value (cv := if t then a.eval ao else a.eval bo) H ?_ ?_
      · simp only [hcv.c_eq, asBool, Sem.run_bind, Sem.run_pure, Result.andThen_ok]
      · cases t
        · exact AO.ev_rel hs h3
        · exact AO.ev_rel hs h2
    · cases h4
  | nilCheck xo =>
    rw [ho] at hc; simp only [comp] at hc
    obtain ⟨y, h1, rfl⟩ := Option.map_eq_some_iff.1 hc
    obtain ⟨g1, g2, g3⟩ := st_nilc H (AO.ev_rel hs h1) rfl hst hbl
    rw [g1, g2]
    refine Ok.value (cv := a.eval xo) H ?_ (AO.ev_rel hs h1)
    dsimp only
    rcases g3 with ⟨ad, e⟩ | ⟨f, cs, e⟩ | ⟨t, u, e⟩ <;> rw [e] <;> rfl
  | binOp op' t xo yo yt =>
    show Ok X P w ι (do pure (.value (← (do eqGuard op' t xo yo (a.eval xo) (a.eval yo); binOp op' t (a.eval xo) (a.eval yo))))) x _
    rw [ho] at hc; simp only [comp] at hc
    obtain ⟨x', h1, hc⟩ := bind_some hc
    obtain ⟨y', h2, hc⟩ := bind_some hc
    have hxr := AO.ev_rel hs h1
    have hyr := AO.ev_rel hs h2
    have hbin : ∀ {op}, op = AOp.bin op' x' y' → stepA op (AO.ev sl) bl c = some (x, ups, news, R) → Ok X P w ι (do pure (.value (← (do eqGuard op' t xo yo (a.eval xo) (a.eval yo); binOp op' t (a.eval xo) (a.eval yo))))) x (appN (appU h ups) c news) := by
      rintro _ rfl hst
      simp only [stepA] at hst
      obtain ⟨h3, rfl, rfl⟩ := pureS_eq hst
      split at h3
      · rename_i u v e1 e2
        rw [e1] at hxr; rw [e2] at hyr
        obtain ⟨z, h4, rfl⟩ := Option.map_eq_some_iff.1 h3
        rw [hxr.c_eq, hyr.c_eq]
        exact (OkV.same H (run_binV h4 w) .c).ok
      · cases h3
    have heqb : ∀ {op}, ∀ ne : Bool, op = AOp.eqb ne x' y' → P.underlying t = some .bool → op' = (if ne then .neq else .eql) → stepA op (AO.ev sl) bl c = some (x, ups, news, R) → Ok X P w ι (do pure (.value (← (do eqGuard op' t xo yo (a.eval xo) (a.eval yo); binOp op' t (a.eval xo) (a.eval yo))))) x (appN (appU h ups) c news) := by
      rintro _ ne rfl ht rfl hst
      simp only [stepA] at hst
      obtain ⟨h3, rfl, rfl⟩ := pureS_eq hst
      split at h3
      · rename_i u v e1 e2
        rw [e1] at hxr; rw [e2] at hyr
        cases h3
        rw [hxr.c_eq, hyr.c_eq]
        refine (OkV.same (cv := .bool (xor ne (u == v))) H ?_ .c).ok
        have := run_equal_bool (w := w) ht u v
        cases ne
        · simp only [Bool.false_eq_true, if_false, eqGuard_at_bool, binOp, Sem.run_bind, Sem.run_pure, Result.andThen_ok, this]; simp
        · simp only [if_true, eqGuard_at_bool, binOp, Sem.run_bind, Sem.run_pure, Result.andThen_ok, this]; simp
      · cases h3
    have heqs : ∀ {op}, ∀ (ne : Bool) (ks : List CK), op = AOp.eqs ks ne x' y' → shp P 20 t = some ks → P.eqGuardType P.depth t = false → ((∃ fs, P.underlying t = some (.struct fs)) ∨ ∃ n e, P.underlying t = some (.array n e)) → op' = (if ne then .neq else .eql) → stepA op (AO.ev sl) bl c = some (x, ups, news, R) → Ok X P w ι (do pure (.value (← (do eqGuard op' t xo yo (a.eval xo) (a.eval yo); binOp op' t (a.eval xo) (a.eval yo))))) x (appN (appU h ups) c news) := by
      rintro _ ne ks rfl hk hg ht hop hst
      simp only [stepA] at hst
      obtain ⟨h3, rfl, rfl⟩ := pureS_eq hst
      split at h3
      · rename_i us vs e1 e2
        obtain ⟨b, h4, rfl⟩ := Option.map_eq_some_iff.1 h3
        rw [plainA_rel hxr e1, plainA_rel hyr e2]
        exact (OkV.same H (run_eqs w hk hg ht hop h4) .c).ok
      · cases h3
    have heqn : ∀ {op}, ∀ ne : Bool, op = AOp.eqn ne x' → ∀ e, P.underlying t = some (.slice e) → op' = (if ne then .neq else .eql) → yo = .const (.slice none 0 0) → stepA op (AO.ev sl) bl c = some (x, ups, news, R) → Ok X P w ι (do pure (.value (← (do eqGuard op' t xo yo (a.eval xo) (a.eval yo); binOp op' t (a.eval xo) (a.eval yo))))) x (appN (appU h ups) c news) := by
      rintro _ ne rfl e ht rfl rfl hst
      have fin : ∀ (ad : Option Addr) (n cp : Nat) (b : Bool), a.eval xo = .slice ad n cp → b = xor ne ad.isNone → x = .c (.bool b) → appN (appU h ups) c news = h → Ok X P w ι (do pure (.value (← (do eqGuard (if ne = true then BinOp.neq else BinOp.eql) t xo (Operand.const (Value.slice none 0 0)) (a.eval xo) (a.eval (Operand.const (Value.slice none 0 0))); binOp (if ne = true then BinOp.neq else BinOp.eql) t (a.eval xo) (a.eval (Operand.const (Value.slice none 0 0))))))) x (appN (appU h ups) c news) := by
        rintro ad n cp b e1 rfl rfl e2
        rw [e1, e2]
        have := run_equal_nil (w := w) ht ad n cp 0 0
        refine (OkV.same (cv := .bool (xor ne ad.isNone)) H ?_ .c).ok
        cases ne
        · simp only [Bool.false_eq_true, if_false, eqGuard_at_slice, binOp, Act.eval, Sem.run_bind, Sem.run_pure, Result.andThen_ok, this]; simp
        · simp only [if_true, eqGuard_at_slice, binOp, Act.eval, Sem.run_bind, Sem.run_pure, Result.andThen_ok, this]; simp
      simp only [stepA] at hst
      split at hst
      · rename_i n m e1
        rw [e1] at hxr
        cases hst
        exact fin none n m _ hxr.c_eq (by cases ne <;> rfl) rfl rfl
      · rename_i b ver off len e1
        rw [e1] at hxr
        split at hst
        · rename_i B hB
          split at hst
          · rename_i hcc
            cases hst
            have hb := hbl b (by simp)
            rw [hB] at hb
            obtain ⟨p, hp, hpv, hP, hBR⟩ := psl_at H hxr hb.symm hcc.1
            obtain ⟨ad, cap, e2, q1, q2, q3, q4⟩ := hP
            rcases q4 with rfl | ⟨hreal, rfl⟩
            · omega
            · exact fin _ _ _ _ e2 (by cases ne <;> rfl) rfl rfl
          · cases hst
        · cases hst
      · rename_i e0 rows e1
        rw [e1] at hxr
        split at hst
        · rename_i hpos
          cases hst
          generalize hv : a.eval xo = v at *
          cases hxr with
          | slnil => simp at hpos
          | sl cv hlen => exact fin _ _ _ _ rfl (by cases ne <;> rfl) rfl rfl
        · cases hst
          have fin' : ∀ (ad : Option Addr) (n cp : Nat), a.eval xo = .slice ad n cp → Ok X P w ι (do pure (.value (← (do eqGuard (if ne = true then BinOp.neq else BinOp.eql) t xo (Operand.const (Value.slice none 0 0)) (a.eval xo) (a.eval (Operand.const (Value.slice none 0 0))); binOp (if ne = true then BinOp.neq else BinOp.eql) t (a.eval xo) (a.eval (Operand.const (Value.slice none 0 0))))))) .bit (appN (appU h []) c []) := by
            rintro ad n cp e1
            rw [e1]
            have := run_equal_nil (w := w) ht ad n cp 0 0
            refine (OkV.same (cv := .bool (xor ne ad.isNone)) H ?_ .bit).ok
            cases ne
            · simp only [Bool.false_eq_true, if_false, eqGuard_at_slice, binOp, Act.eval, Sem.run_bind, Sem.run_pure, Result.andThen_ok, this]; simp
            · simp only [if_true, eqGuard_at_slice, binOp, Act.eval, Sem.run_bind, Sem.run_pure, Result.andThen_ok, this]; simp
          generalize hv : a.eval xo = v at *
          cases hxr with
          | slnil => exact fin' _ _ _ rfl
          | sl cv hlen => exact fin' _ _ _ rfl
      · cases hst
    split at hc
    · cases hc; exact hbin rfl hst
    · cases hc; exact hbin rfl hst
    · rename_i ht
      split at hc
      · cases hc; exact heqb false rfl ht rfl hst
      · cases hc; exact heqb true rfl ht rfl hst
      · cases hc
    · rename_i e ht
      split at hc
      · cases hc; exact heqn false rfl e ht rfl rfl hst
      · cases hc; exact heqn true rfl e ht rfl rfl hst
      · cases hc
    · rename_i fs ht
      unfold compEq at hc
      split at hc
      · rename_i hg
        split at hc
        · obtain ⟨ks, hk, rfl⟩ := Option.map_eq_some_iff.1 hc; exact heqs false ks rfl hk hg (.inl ⟨fs, ht⟩) rfl hst
        · obtain ⟨ks, hk, rfl⟩ := Option.map_eq_some_iff.1 hc; exact heqs true ks rfl hk hg (.inl ⟨fs, ht⟩) rfl hst
        · cases hc
      · cases hc
    · rename_i n e ht
      unfold compEq at hc
      split at hc
      · rename_i hg
        split at hc
        · obtain ⟨ks, hk, rfl⟩ := Option.map_eq_some_iff.1 hc; exact heqs false ks rfl hk hg (.inr ⟨n, e, ht⟩) rfl hst
        · obtain ⟨ks, hk, rfl⟩ := Option.map_eq_some_iff.1 hc; exact heqs true ks rfl hk hg (.inr ⟨n, e, ht⟩) rfl hst
        · cases hc
      · cases hc
    · cases hc
  | unOp op' t xo =>
    show Ok X P w ι (do pure (.value (← Op.unary op' (a.eval xo)))) x _
    rw [ho] at hc; simp only [comp] at hc
    obtain ⟨x', h1, hc⟩ := bind_some hc
    have hxr := AO.ev_rel hs h1
    split at hc
    · cases hc
      simp only [stepA] at hst
      obtain ⟨h3, rfl, rfl⟩ := pureS_eq hst
      split at h3
      · rename_i b e1
        rw [e1] at hxr
        cases h3
        rw [hxr.c_eq]
        exact (OkV.same H (by simp [Op.unary]) .c).ok
      · cases h3
    · cases hc
      simp only [stepA] at hst
      obtain ⟨h3, rfl, rfl⟩ := pureS_eq hst
      split at h3
      · rename_i k n e1
        rw [e1] at hxr
        cases h3
        rw [hxr.c_eq]
        exact (OkV.same H (by simp [Op.unary, Op.intArith]) .c).ok
      · cases h3
    · cases hc
      simp only [stepA] at hst
      obtain ⟨h3, rfl, rfl⟩ := pureS_eq hst
      split at h3
      · rename_i k n e1
        rw [e1] at hxr
        cases h3
        rw [hxr.c_eq]
        exact (OkV.same H (by simp [Op.unary]; rfl) .c).ok
      · cases h3
    · cases hc
  | convert s t xo =>
    show Ok X P w ι (do pure (.value (← convert s t (a.eval xo)))) x _
    rw [ho] at hc; simp only [comp] at hc
    obtain ⟨x', h1, hc⟩ := bind_some hc
    have hxr := AO.ev_rel hs h1
    split at hc
    · rename_i k1 k2 hu1 hu2
      cases hc
      simp only [stepA] at hst
      obtain ⟨h3, rfl, rfl⟩ := pureS_eq hst
      split at h3
      · rename_i k n e1
        rw [e1] at hxr
        cases h3
        rw [hxr.c_eq]
        exact (OkV.same H (by simp [convert, run_underlying hu1, run_underlying hu2, Conv.intToInt]) .c).ok
      · cases h3
    · rename_i k1 hu1 hu2
      cases hc
      simp only [stepA] at hst
      obtain ⟨h3, rfl, rfl⟩ := pureS_eq hst
      split at h3
      · rename_i k n e1
        rw [e1] at hxr
        cases h3
        rw [hxr.c_eq]
        exact (OkV.same H (by simp [convert, run_underlying hu1, run_underlying hu2, Conv.intToString]) .c).ok
      · cases h3
    · rename_i e hu1 hu2
      split at hc
      · rename_i hu3
        cases hc
        exact (st_s2b H hu1 hu2 hu3 hxr hst hnew).ok
      · cases hc
    · cases hc
  | box e xo =>
    rw [ho] at hc; simp only [comp] at hc
    obtain ⟨s, h1, hc⟩ := bind_some hc
    obtain ⟨y, h2, hc⟩ := bind_some hc
    cases hc
    exact (st_new H e (AO.ev_rel hs h2) hst hbl hnew).ok
  | alloc e =>
    rw [ho] at hc; simp only [comp] at hc
    obtain ⟨z, h1, rfl⟩ := Option.map_eq_some_iff.1 hc
    exact (st_zero H e h1 hst hnew).ok
  | build t parts =>
    rw [ho] at hc; simp only [comp] at hc
    obtain ⟨z, h1, hc⟩ := bind_some hc
    obtain ⟨ps, h2, hc⟩ := bind_some hc
    cases hc
    exact (st_build H hs h1 h2 hst hbl).ok
  | buildSlice t len parts =>
    rw [ho] at hc; simp only [comp] at hc
    split at hc
    · rename_i e ht
      obtain ⟨z, h1, hc⟩ := bind_some hc
      obtain ⟨ps, h2, hc⟩ := bind_some hc
      cases hc
      refine (st_bsl H hs ht h1 ?_ hst hbl hnew).ok
      rw [← h2]
      congr 1
      funext p
      obtain ⟨i, o⟩ := p
      cases compO o <;> rfl
    · cases hc
  | load t ao =>
    rw [ho] at hc; simp only [comp] at hc
    obtain ⟨n, h1, hc⟩ := bind_some hc
    obtain ⟨y, h2, hc⟩ := bind_some hc
    cases hc
    exact (st_ld H h1 (AO.ev_rel hs h2) hst hbl).ok
  | store t ao vo =>
    rw [ho] at hc; simp only [comp] at hc
    obtain ⟨n, h1, hc⟩ := bind_some hc
    obtain ⟨y, h2, hc⟩ := bind_some hc
    obtain ⟨z, h3, hc⟩ := bind_some hc
    cases hc
    exact st_st H h1 (AO.ev_rel hs h2) (AO.ev_rel hs h3) hst hbl
  | makeSlice t lo co =>
    rw [ho] at hc; simp only [comp] at hc
    split at hc
    · rename_i e ht
      obtain ⟨z, h1, hc⟩ := bind_some hc
      obtain ⟨i, h2, hc⟩ := bind_some hc
      obtain ⟨y1, h3, hc⟩ := bind_some hc
      obtain ⟨y2, h4, hc⟩ := bind_some hc
      cases hc
      exact (st_mksl H ht h1 h2 (AO.ev_rel hs h3) (AO.ev_rel hs h4) hst hnew).ok
    · cases hc
  | slice t xo lo hi mx =>
    rw [ho] at hc
    cases mx with
    | some m => simp [comp] at hc
    | none =>
      simp only [comp] at hc
      split at hc
      · rename_i e ht
        obtain ⟨s, h1, hc⟩ := bind_some hc
        obtain ⟨y, h2, hc⟩ := bind_some hc
        obtain ⟨l', h3, hc⟩ := bind_some hc
        obtain ⟨h', h4, hc⟩ := bind_some hc
        cases hc
        exact (st_slc H hs ht h1 (AO.ev_rel hs h2) h3 h4 hst hbl).ok
      · rename_i ht
        obtain ⟨y, h2, hc⟩ := bind_some hc
        obtain ⟨l', h3, hc⟩ := bind_some hc
        obtain ⟨h', h4, hc⟩ := bind_some hc
        cases hc
        simp only [stepA] at hst
        obtain ⟨h5, rfl, rfl⟩ := pureS_eq hst
        have hxr := AO.ev_rel hs h2
        split at h5
        · rename_i s e1
          rw [e1] at hxr
          split at h5
          · rename_i l hh hl hh'
            split at h5
            · rename_i hcc
              cases h5
              obtain ⟨r1, r2⟩ := opt_lo hs h3 hl
              obtain ⟨r3, r4⟩ := opt_lo hs h4 hh'
              have hrun := run_slice_str ht w r1 r2 r3 r4 hcc.1 hcc.2.1 hcc.2.2
              rw [← hxr.c_eq] at hrun
              exact (OkV.same H hrun .c).ok
            · cases h5
          · cases h5
        · cases h5
      · cases hc
  | fieldAddr t xo i =>
    rw [ho] at hc; simp only [comp] at hc
    split at hc
    · rename_i fields ht
      obtain ⟨f, h1, hc⟩ := bind_some hc
      obtain ⟨s, h2, hc⟩ := bind_some hc
      split at hc
      · cases hc
      · rename_i h0
        obtain ⟨y, h3, hc⟩ := bind_some hc
        cases hc
        exact (st_fad H ht h1 h2 h0 (AO.ev_rel hs h3) hst hbl).ok
    · cases hc
  | indexAddr t xo io =>
    rw [ho] at hc; simp only [comp] at hc
    split at hc
    · rename_i e ht
      obtain ⟨s, h1, hc⟩ := bind_some hc
      obtain ⟨y, h2, hc⟩ := bind_some hc
      obtain ⟨z, h3, hc⟩ := bind_some hc
      cases hc
      exact (st_idx_sl H ht h1 (AO.ev_rel hs h2) (AO.ev_rel hs h3) hst hbl).ok
    · rename_i n e ht
      obtain ⟨s, h1, hc⟩ := bind_some hc
      obtain ⟨y, h2, hc⟩ := bind_some hc
      obtain ⟨z, h3, hc⟩ := bind_some hc
      cases hc
      exact (st_idx_arr H ht h1 (AO.ev_rel hs h2) (AO.ev_rel hs h3) hst hbl).ok
    · cases hc
  | field t xo i =>
    show Ok X P w ι (do pure (.value (← Instr.field t (a.eval xo) i))) x _
    rw [ho] at hc; simp only [comp] at hc
    split at hc
    · rename_i fields ht
      obtain ⟨f, h1, hc⟩ := bind_some hc
      obtain ⟨n, h2, hc⟩ := bind_some hc
      obtain ⟨y, h3, hc⟩ := bind_some hc
      cases hc
      simp only [stepA] at hst
      obtain ⟨h4, rfl, rfl⟩ := pureS_eq hst
      split at h4
      · rename_i cs e1
        have hxr := AO.ev_rel hs h3
        rw [e1] at hxr
        obtain ⟨vs, e2, hl⟩ := agg_LRel hxr
        obtain ⟨v, g1, g2⟩ := run_part (P := P) h2 hl h4
        refine (OkV.same H ?_ g2).ok
        rw [e2]
        simp only [Instr.field, Sem.run_bind, run_underlying ht, Result.andThen_ok, h1, asAgg, Sem.run_pure, g1]
      · cases h4
    · cases hc
  | index t xo io =>
    show Ok X P w ι (do pure (.value (← Instr.index t (a.eval xo) (a.eval io)))) x _
    rw [ho] at hc; simp only [comp] at hc
    split at hc
    · rename_i n0 e ht
      obtain ⟨s, h1, hc⟩ := bind_some hc
      obtain ⟨n, h2, hc⟩ := bind_some hc
      obtain ⟨y, h3, hc⟩ := bind_some hc
      obtain ⟨z, h4, hc⟩ := bind_some hc
      cases hc
      simp only [stepA] at hst
      obtain ⟨h5, rfl, rfl⟩ := pureS_eq hst
      split at h5
      · rename_i j cs e1 e2
        have hxr := AO.ev_rel hs h3
        rw [e2] at hxr
        obtain ⟨kk, e3⟩ := ofInt_rel (AO.ev_rel hs h4) e1
        obtain ⟨vs, e4, hl⟩ := agg_LRel hxr
        split at h5
        · rename_i hj
          obtain ⟨v, g1, g2⟩ := run_part (P := P) h2 hl (off := j.toNat * s) (x := x) h5
          refine (OkV.same H ?_ g2).ok
          rw [e4, e3]
          simp only [Instr.index, asIntOf, Sem.run_bind, Sem.run_pure, run_underlying ht, Result.andThen_ok, Sem.run_ite, if_pos hj, run_sizeOf h1, g1]
        · cases h5
      · cases h5
    · rename_i ht
      obtain ⟨y, h3, hc⟩ := bind_some hc
      obtain ⟨z, h4, hc⟩ := bind_some hc
      cases hc
      simp only [stepA] at hst
      obtain ⟨h5, rfl, rfl⟩ := pureS_eq hst
      split at h5
      · rename_i j s e1 e2
        have hxr := AO.ev_rel hs h3
        rw [e2] at hxr
        obtain ⟨kk, e3⟩ := ofInt_rel (AO.ev_rel hs h4) e1
        split at h5
        · rename_i hj
          obtain ⟨b, g1, rfl⟩ := Option.map_eq_some_iff.1 h5
          refine (OkV.same (cv := .int .u8 b.toNat) H ?_ .c).ok
          rw [hxr.c_eq, e3]
          simp only [Instr.index, asIntOf, Sem.run_bind, Sem.run_pure, run_underlying ht, Result.andThen_ok, if_pos hj, g1]
        · cases h5
      · cases h5
    · cases hc
  | extract xo i =>
    show Ok X P w ι (do pure (.value (← Instr.extract (a.eval xo) i))) x _
    rw [ho] at hc; simp only [comp] at hc
    obtain ⟨y, h1, hc⟩ := bind_some hc
    cases hc
    simp only [stepA] at hst
    obtain ⟨h4, rfl, rfl⟩ := pureS_eq hst
    split at h4
    · rename_i vs e1
      have hxr := AO.ev_rel hs h1
      rw [e1] at hxr
      generalize hv : a.eval xo = v at *
      cases hxr with
      | tup hl hh =>
        rename_i cs
        have hlt := (List.getElem?_eq_some_iff.1 h4).1
        have hci : cs[i]? = some (cs[i]'(by rw [hl]; exact hlt)) := Array.getElem?_eq_getElem _
        refine (OkV.same H ?_ (hh i _ x hci h4)).ok
        simp only [Instr.extract, hci, Sem.run_pure]
    · cases h4
  | makeFunc fn first caps =>
    rw [ho] at hc
    cases fn with
    | func f =>
      simp only [comp] at hc
      split at hc
      · rename_i h0
        obtain ⟨l, h1, rfl⟩ := Option.map_eq_some_iff.1 hc
        simp only [stepA] at hst
        cases hst
        obtain ⟨g1, g2⟩ := compL_rel hs h1
        have hf : first = #[] := by simpa using h0
        subst hf
        refine (OkV.same (cv := .func (.func f) #[] (caps.map a.eval)) H (by simp [Instr.makeFunc]) ?_).ok
        refine .fn (by simpa using g1) (fun i u y hu hy => ?_)
        rw [List.getElem?_map] at hy
        obtain ⟨y', h2, rfl⟩ := Option.map_eq_some_iff.1 hy
        refine g2 i u y' ?_ h2
        rw [List.getElem?_map]
        simpa using hu
      · cases hc
    | method => simp [comp] at hc
    | methodOf => simp [comp] at hc
    | via => simp [comp] at hc
    | yield => simp [comp] at hc
  | makeInterface t xo =>
    rw [ho] at hc; simp only [comp] at hc
    have key : ∀ d, P.underlying t = some d → (∀ ms, d ≠ .interface ms) → (compO xo).map (AOp.mki t) = some op → Ok X P w ι (do pure (.value (← Instr.makeInterface t (a.eval xo)))) x (appN (appU h ups) c news) := by
      intro d hd hne hc
      obtain ⟨y, h1, rfl⟩ := Option.map_eq_some_iff.1 hc
      simp only [stepA] at hst
      cases hst
      refine (OkV.same (cv := .iface t (a.eval xo)) H ?_ (.ifc (AO.ev_rel hs h1))).ok
      simp only [Instr.makeInterface, Sem.run_bind, run_underlying hd, Result.andThen_ok]
      cases d <;> first | rfl | (exact absurd rfl (hne _))
    split at hc
    · cases hc
    · cases hc
    · rename_i h1 h2
      cases hd : P.underlying t with
      | none => exact absurd hd h2
      | some d =>
        refine key d hd (fun ms e => h1 ms (by rw [hd, e])) ?_
        rw [← hc]
        cases compO xo <;> rfl
  | call cl =>
    obtain ⟨callee, args, ats⟩ := cl
    show Ok X P w ι (do let d ← resolve a.eval ⟨callee, args, ats⟩ o.type; invoke d.target d.args) x _
    rw [ho] at hc; simp only [comp] at hc
    cases callee with
    | value f =>
      exfalso
      cases f with
      | func f =>
        dsimp only at hc
        split at hc
        · obtain ⟨l, _, rfl⟩ := Option.map_eq_some_iff.1 hc; simp [stepA] at hst
        · obtain ⟨l, _, rfl⟩ := Option.map_eq_some_iff.1 hc; simp [stepA] at hst
      | tmp t =>
        dsimp only at hc
        obtain ⟨y, _, hc⟩ := bind_some hc; obtain ⟨l, _, hc⟩ := bind_some hc; cases hc; simp [stepA] at hst
      | const v =>
        dsimp only at hc
        obtain ⟨y, _, hc⟩ := bind_some hc; obtain ⟨l, _, hc⟩ := bind_some hc; cases hc; simp [stepA] at hst
      | global g =>
        dsimp only at hc
        obtain ⟨y, _, hc⟩ := bind_some hc; obtain ⟨l, _, hc⟩ := bind_some hc; cases hc; simp [stepA] at hst
    | invoke r m =>
      dsimp only at hc
      obtain ⟨y, _, hc⟩ := bind_some hc; obtain ⟨l, _, hc⟩ := bind_some hc; cases hc; simp [stepA] at hst
    | builtin b =>
      dsimp only at hc
      have hres : ∀ cs, (do let d ← resolve a.eval ⟨.builtin b, args, ats⟩ o.type; invoke d.target d.args : Sem Next) = builtin b ats o.type cs (args.map a.eval) → True := fun _ _ => trivial
      have hargs : ∀ l, args.toList = l → (args.map a.eval) = (l.map a.eval).toArray := by rintro _ rfl; apply Array.ext'; simp
      have hats : ∀ l, ats.toList = l → ats = l.toArray := by rintro _ rfl; simp
      split at hc
      · rename_i t xo e1 e2
        rw [hats _ e1] at *
        split at hc
        · rename_i e ht
          obtain ⟨y, h1, rfl⟩ := Option.map_eq_some_iff.1 hc
          have := (st_len H ht (ty := o.type) (AO.ev_rel hs h1) hst hbl).ok
          simpa [resolve, invoke, builtin, hargs _ e2] using this
        · rename_i ht
          obtain ⟨y, h1, rfl⟩ := Option.map_eq_some_iff.1 hc
          have := (st_lens H ht (ty := o.type) (AO.ev_rel hs h1) hst).ok
          simpa [resolve, invoke, builtin, hargs _ e2] using this
        · rename_i n e ht
          cases hc
          simp only [stepA] at hst
          cases hst
          have : OkV X P w ι (Builtin.len_ #[t] o.type #[a.eval xo]) (.c (.int .i64 n)) h := OkV.same (cv := goInt n) H (by simp [Builtin.len_, run_underlying ht]) .c
          simpa [resolve, invoke, builtin, hargs _ e2, appU, appN] using this.ok
        · cases hc
      · rename_i t xo e1 e2
        rw [hats _ e1] at *
        split at hc
        · rename_i e ht
          obtain ⟨y, h1, rfl⟩ := Option.map_eq_some_iff.1 hc
          have := (st_capx H ht (ty := o.type) (AO.ev_rel hs h1) hst hbl).ok
          simpa [resolve, invoke, builtin, hargs _ e2] using this
        · cases hc
      · rename_i t t2 dO sO e1 e2
        rw [hats _ e1] at *
        split at hc
        · rename_i e ht
          obtain ⟨s, h0, hc⟩ := bind_some hc
          obtain ⟨y, h1, hc⟩ := bind_some hc
          obtain ⟨z, h2, hc⟩ := bind_some hc
          cases hc
          have := (st_copy H ht h0 (t2 := t2) (ty := o.type) (AO.ev_rel hs h1) (AO.ev_rel hs h2) hst hbl).ok
          simpa [resolve, invoke, builtin, hargs _ e2] using this
        · cases hc
      · rename_i t t2 dO sO e1 e2
        rw [hats _ e1] at *
        split at hc
        · rename_i e e' ht ht2
          obtain ⟨i, h0, hc⟩ := bind_some hc
          obtain ⟨zz, h00, hc⟩ := bind_some hc
          obtain ⟨y, h1, hc⟩ := bind_some hc
          obtain ⟨z, h2, hc⟩ := bind_some hc
          cases hc
          have := (st_app H ht ht2 h0 h00 (ty := o.type) (AO.ev_rel hs h1) (AO.ev_rel hs h2) hst hbl hnew).ok
          simpa [resolve, invoke, builtin, hargs _ e2] using this
        · cases hc
      · rename_i t xo e1 e2
        rw [hats _ e1] at *
        split at hc
        · rename_i e ht
          obtain ⟨zz, h0, hc⟩ := bind_some hc
          obtain ⟨y, h1, hc⟩ := bind_some hc
          cases hc
          have := (st_clr H ht h0 (ty := o.type) (AO.ev_rel hs h1) hst hbl).ok
          simpa [resolve, invoke, builtin, hargs _ e2] using this
        · cases hc
      · obtain ⟨l, h1, rfl⟩ := Option.map_eq_some_iff.1 hc
        obtain ⟨g1, g2⟩ := compL_rel hs h1
        simp only [stepA] at hst
        obtain ⟨h4, rfl, rfl⟩ := pureS_eq hst
        cases l with
        | nil => cases h4
        | cons y ys =>
          cases hl : args.toList with
          | nil => rw [hl] at g1; simp at g1
          | cons q qs =>
            rw [hl] at g1 g2
            obtain ⟨v, r1, r2⟩ := run_mnx (P := P) (w := w) (ι := ι) (ev := AO.ev sl) false (qs.map a.eval) ys (a.eval q) _ x (by simpa using g1) (fun i u y' hu hy => g2 (i + 1) u y' (by simpa using hu) (by simpa using hy)) (g2 0 _ y rfl rfl) h4
            have : OkV X P w ι (Builtin.min_ ats o.type (args.map a.eval)) x h := OkV.same H (by rw [hargs _ hl]; simpa [Builtin.min_] using r1) r2
            simpa [resolve, invoke, builtin, appU, appN] using this.ok
      · obtain ⟨l, h1, rfl⟩ := Option.map_eq_some_iff.1 hc
        obtain ⟨g1, g2⟩ := compL_rel hs h1
        simp only [stepA] at hst
        obtain ⟨h4, rfl, rfl⟩ := pureS_eq hst
        cases l with
        | nil => cases h4
        | cons y ys =>
          cases hl : args.toList with
          | nil => rw [hl] at g1; simp at g1
          | cons q qs =>
            rw [hl] at g1 g2
            obtain ⟨v, r1, r2⟩ := run_mnx (P := P) (w := w) (ι := ι) (ev := AO.ev sl) true (qs.map a.eval) ys (a.eval q) _ x (by simpa using g1) (fun i u y' hu hy => g2 (i + 1) u y' (by simpa using hu) (by simpa using hy)) (g2 0 _ y rfl rfl) h4
            have : OkV X P w ι (Builtin.max_ ats o.type (args.map a.eval)) x h := OkV.same H (by rw [hargs _ hl]; simpa [Builtin.max_] using r1) r2
            simpa [resolve, invoke, builtin, appU, appN] using this.ok
      · cases hc
  | insert => rw [ho] at hc; simp [comp] at hc
  | ready => rw [ho] at hc; simp [comp] at hc
  | waits => rw [ho] at hc; simp [comp] at hc
  | sliceToArrayPointer => rw [ho] at hc; simp [comp] at hc
  | makeMap => rw [ho] at hc; simp [comp] at hc
  | makeChan => rw [ho] at hc; simp [comp] at hc
  | lookup => rw [ho] at hc; simp [comp] at hc
  | mapUpdate => rw [ho] at hc; simp [comp] at hc
  | mapEntry => rw [ho] at hc; simp [comp] at hc
  | entryStore => rw [ho] at hc; simp [comp] at hc
  | range => rw [ho] at hc; simp [comp] at hc
  | next => rw [ho] at hc; simp [comp] at hc
  | entry => rw [ho] at hc; simp [comp] at hc
  | typeAssert => rw [ho] at hc; simp [comp] at hc
  | go => rw [ho] at hc; simp [comp] at hc
  | defer => rw [ho] at hc; simp [comp] at hc
  | panic => rw [ho] at hc; simp [comp] at hc
  | send => rw [ho] at hc; simp [comp] at hc
  | recv => rw [ho] at hc; simp [comp] at hc
  | select => rw [ho] at hc; simp [comp] at hc
end
end Go.Proofs.Ytjmmompbmjhkpaa.Calc
