/- Walks: the writer of keys: bytes, words, texts. -/
import Derived.Test.YticgdjnekbobgaaDoorKeyW
import Derived.Test.YticgdjnekbobgaaDoorKept
set_option linter.unusedVariables false
set_option linter.unusedSimpArgs false
namespace Go.Proofs.YticgdjnekbobgaaDoor
open Go.RowKit Go.Shelf

/-- Only the writer's block and its row's own have turned. -/
structure WG (w : World) (pb : Nat) (v : Value) (w' : World) (v' : Value) : Prop where
  kept : Kept (fun k => k = pb ∨ v.ownBlock = some k) w w'
  own : v'.ownBlock = v.ownBlock ∨ ∃ k, v'.ownBlock = some k ∧ w.heap.size ≤ k
theorem WG.refl (w : World) (pb : Nat) (v : Value) : WG w pb v w v := ⟨Kept.refl _ _, .inl rfl⟩
theorem WG.size {w w' : World} {pb : Nat} {v v' : Value} (h : WG w pb v w' v') : w.heap.size ≤ w'.heap.size := h.kept.size
theorem WG.trans {w w1 w2 : World} {pb : Nat} {v v1 v2 : Value} (h : WG w pb v w1 v1) (k : WG w1 pb v1 w2 v2) : WG w pb v w2 v2 := by
  refine ⟨⟨k.kept.os.trans h.kept.os, k.kept.tape.trans h.kept.tape, k.kept.output.trans h.kept.output, Nat.le_trans h.kept.size k.kept.size, fun i hi hs => ?_⟩, ?_⟩
  · refine (k.kept.block i (Nat.lt_of_lt_of_le hi h.kept.size) (fun q => ?_)).trans (h.kept.block i hi hs)
    rcases q with q | q
    · exact hs (.inl q)
    · rcases h.own with e | ⟨j, e, hj⟩
      · exact hs (.inr (e ▸ q))
      · rw [e] at q; injection q with q; omega
  · rcases k.own with e | ⟨j, e, hj⟩
    · rw [e]; exact h.own
    · exact .inr ⟨j, e, Nat.le_trans h.kept.size hj⟩
theorem WG.of_grow {w w' : World} (pb : Nat) (v : Value) (h : Grow w w') : WG w pb v w' v := ⟨Kept.grow h, .inl rfl⟩
theorem WG.alloc {w w1 : World} {pb : Nat} {v v1 : Value} (h : WG w pb v w1 v1) (o : Obj) : WG w pb v (w1.alloc o) v1 := h.trans (WG.of_grow pb v1 ((Grow.refl w1).alloc o))
theorem WG.blk {w w' : World} {pb : Nat} {v v' : Value} (h : WG w pb v w' v') {g : Nat} {t : TypeId} {cs : Array Value} (hb : Blk w g t cs) (h1 : g ≠ pb) (h2 : v.ownBlock ≠ some g) : Blk w' g t cs :=
  h.kept.blk hb (fun q => q.elim h1 h2)
theorem WG.ne {w w' : World} {pb g : Nat} {v v' : Value} (h : WG w pb v w' v') (hg : g < w.heap.size) (hn : v.ownBlock ≠ some g) : v'.ownBlock ≠ some g := by
  intro e
  rcases h.own with q | ⟨k, q, hk⟩
  · exact hn (q ▸ e)
  · rw [q] at e; injection e with e; omega
/-- The writer's block and its row. -/
def Wr (w : World) (pb : Nat) (A : Option Addr) (c : Nat) (bs : List UInt8) : Prop :=
  Blk w pb 96 #[.slice A bs.length c] ∧ Row w (pb + 1) (.slice A bs.length c) bs.length bs
theorem Wr.own {w : World} {pb : Nat} {A : Option Addr} {c : Nat} {bs : List UInt8} (h : Wr w pb A c bs) {k : Nat} (hk : Value.ownBlock (.slice A bs.length c) = some k) : pb < k ∧ k < w.heap.size := by
  have := World.ownsRow.lt h.2 k hk
  omega
theorem Wr.grow {w w' : World} {pb : Nat} {A : Option Addr} {c : Nat} {bs : List UInt8} (h : Wr w pb A c bs) (hg : Grow w w') : Wr w' pb A c bs := ⟨h.1.grow hg, h.2.grow hg⟩
theorem WG.below {w w' : World} {pb : Nat} {A : Option Addr} {c : Nat} {bs : List UInt8} {v' : Value} (h : WG w pb (.slice A bs.length c) w' v') (hw : Wr w pb A c bs) : Below pb w w' :=
  h.kept.below (Nat.le_of_lt hw.1.lt) (fun q hq => hq.elim (fun e => by omega) (fun e => by have := hw.own e; omega))
/-- A block that came behind the writer's. -/
theorem WG.blkW {w w' : World} {pb : Nat} {A : Option Addr} {c : Nat} {bs : List UInt8} {v' : Value} (h : WG w pb (.slice A bs.length c) w' v') {g : Nat} {t : TypeId} {cs : Array Value} (hb : Blk w g t cs) (h1 : g ≠ pb) (h2 : Value.ownBlock (.slice A bs.length c) ≠ some g) : Blk w' g t cs := h.blk hb h1 h2

theorem Kept.of_grew {S : Nat → Prop} {w w' : World} {v v' : Value} (h : Grew w v w' v') (hs : ∀ k, v.ownBlock = some k → S k) : Kept S w w' :=
  ⟨h.grow.os, h.grow.tape, h.grow.output, h.grow.size, fun k hk hn => h.grow.block k hk (fun e => hn (hs k e.symm))⟩
theorem Row.set {w : World} {base m : Nat} {v : Value} {xs : List UInt8} (h : Row w base v m xs) {p : Addr} (hp : p.block < base) (u : Value) : Row (w.setCell p u) base v m xs := by
  rcases h.2 with h0 | ⟨g, cap, cur, rfl, hb, hg, hr⟩
  · exact ⟨h.1, .inl h0⟩
  · exact ⟨h.1, .inr ⟨g, cap, cur, rfl, hb, Blk.far (t := 5) (cs := cur) hg (by omega) u, hr⟩⟩

def WrC (w : World) (pb : Nat) (A : Option Addr) (n c : Nat) (bs' : List UInt8) (e : Ending) (w' : World) : Prop :=
  ∃ A' c', e = .returned (.tuple #[]) ∧ Wr w' pb A' c' bs' ∧ WG w pb (.slice A n c) w' (.slice A' bs'.length c')

set_option maxHeartbeats 1600000 in
theorem kw_lay (pb : Nat) (A : Option Addr) (c : Nat) (bs : List UInt8) (Y : Value) (ys : List UInt8) (w : World) (h : Wr w pb A c bs) (hs : Src Tryd.prog 1 23 Y ys.length (u8s ys) w)
    (hl : bs.length + ys.length ≤ 140737488400000) : Calls Tryd.prog 138 #[.pointer (some ⟨pb, 0, none⟩), Y] w (WrC w pb A bs.length c (bs ++ ys)) := by
  have hc := h.1.cell 0
  have hlt := h.1.lt
  have hfz := h.1.frozen
  have HW := hide h
  have HS := hide hs
  clear h hs
  go_enter Tryd.func138, Tryd.ntmps138
  go_wp2_with (at_builtin; refine app_src (ys := ys) rfl (.tmp 8) (.tmp 9) _ rfl rfl HW.out.2 _ rfl HS.out (by omega) (by omega) ?_; intro A1 c1 w1 hr1 hg1; have HR1 := hide hr1; have HG1 := hide hg1; have hb1 := HW.out.1.own hg1.grow (fun k hk => by have := HW.out.own hk; omega); have HB1 := hide hb1; have hc1 := hb1.cell 0; have hfz1 := hb1.frozen 0; have hlt1 := hb1.lt; clear hr1 hg1 hb1)
  go_end0
  have hn : (bs ++ ys).length = bs.length + ys.length := List.length_append
  have hb2 : Blk (w1.setCell ⟨pb, 0, none⟩ (.slice A1 (bs.length + ys.length) c1)) pb 96 #[.slice A1 (bs.length + ys.length) c1] := HB1.out.set_ 0 _
  refine ⟨A1, c1, rfl, ⟨by rw [hn]; exact hb2, by rw [hn]; exact HR1.out.set (by simp) _⟩, ?_⟩
  rw [hn]
  refine ⟨(Kept.of_grew (S := fun k => k = pb ∨ Value.ownBlock (.slice A bs.length c) = some k) HG1.out (fun k hk => .inr hk)).set (p := ⟨pb, 0, none⟩) (.inl rfl) _, HG1.out.lies⟩

theorem src_lit {w : World} {g n : Nat} (zs : List UInt8) (cs : Array Value) (hn : zs.length = n) (hb : Blk w g 5 cs) (he : cs = (u8s zs).toArray) : Src Tryd.prog 1 23 (.slice (some ⟨g, 0, none⟩) n n) zs.length (u8s zs) w := by
  subst hn he
  refine Src.ofSlice w under_u8s ⟨g, 0, none⟩ zs.length zs.length (u8s zs) (by rw [u8s_length]; simp) (fun j u hu => ?_) (u8s_one _)
  rw [add_lit, Nat.zero_add, hb.cell]
  simpa using hu
theorem be_take (n size j : Nat) (h : j < size) : (be size n).take (size - j) = (be size n).take (size - (j + 1)) ++ [UInt8.ofNat (n / 256 ^ j)] := by
  have e : size - j = (size - (j + 1)) + 1 := by omega
  rw [e, take_snoc _ _ (by rw [be_length]; omega)]
  congr 2
  have : (be size n)[size - (j + 1)]'(by rw [be_length]; omega) = (toLe size n)[j]'(by rw [toLe_length]; exact h) := by
    unfold be
    rw [List.getElem_reverse]
    congr 1
    rw [toLe_length]; omega
  rw [this]
  simp [toLe]
/-- A call of lay from a world with one block more. -/
theorem kw_lay_new (pb : Nat) (A : Option Addr) (c : Nat) (bs : List UInt8) (zs : List UInt8) (cs : Array Value) (n : Nat) (w : World) (h : Wr w pb A c bs) (hn : zs.length = n) (he : cs = (u8s zs).toArray)
    (hl : bs.length + zs.length ≤ 140737488400000) : Calls Tryd.prog 138 #[.pointer (some ⟨pb, 0, none⟩), .slice (some ⟨w.heap.size, 0, none⟩) n n] (w.alloc (.cells cs 5)) (WrC w pb A bs.length c (bs ++ zs)) := by
  refine (kw_lay pb A c bs _ zs _ (h.grow ((Grow.refl w).alloc _)) (src_lit zs cs hn (Blk.new w _ cs) he) hl).mono ?_
  rintro e w' ⟨A', c', rfl, h1, h2⟩
  exact ⟨A', c', rfl, h1, (WG.of_grow pb _ ((Grow.refl w).alloc _)).trans h2⟩

set_option maxHeartbeats 1600000 in
theorem kw_word (pb : Nat) (A : Option Addr) (c : Nat) (bs : List UInt8) (n size : Nat) (w : World) (h : Wr w pb A c bs) (hs : size ≤ 8) (hn : n < 18446744073709551616)
    (hl : bs.length + 8 ≤ 140737488355328) : Calls Tryd.prog 140 #[.pointer (some ⟨pb, 0, none⟩), .int .u64 n, .int .i64 size] w (WrC w pb A bs.length c (bs ++ be size n)) := by
  have HW := hide h
  clear h
  go_enter Tryd.func140, Tryd.ntmps140
  go_wp2_with fail
  go_loopg [6] (size + 1) (fun gk i wr => ∃ (r : Nat) (z : Int) (A' : Option Addr) (c' : Nat), r ≤ size ∧ gk = r + 1 ∧ z + 1 = (r : Int) ∧ i = .int .i64 z ∧ Wr wr pb A' c' (bs ++ (be size n).take (size - r)) ∧
    WG w pb (.slice A bs.length c) wr (.slice A' (bs ++ (be size n).take (size - r)).length c'))
  case atStart => exact ⟨size, (size : Int) - 1, A, c, Nat.le_refl _, rfl, by omega, rfl, by rw [Nat.sub_self, List.take_zero, List.append_nil]; exact HW.out, by rw [Nat.sub_self, List.take_zero, List.append_nil]; exact WG.refl _ _ _⟩
  case round =>
    obtain ⟨r, z, A', c', hr, rfl, hz, rfl, hw, hg⟩ := hrel
    have HW2 := hide hw
    have HG2 := hide hg
    clear hw hg
    by_cases h0 : r = 0
    · subst h0
      have hz0 : z = -1 := by omega
      subst hz0
      clear hz
      go_wp2_with fail
      go_end0
      have e : (be size n).take (size - 0) = be size n := List.take_of_length_le (by rw [be_length]; omega)
      rw [e] at HW2 HG2
      exact ⟨A', c', rfl, HW2.out, HG2.out⟩
    · obtain ⟨j, rfl⟩ : ∃ j, r = j + 1 := ⟨r - 1, by omega⟩
      obtain rfl : z = (j : Int) := by omega
      clear hz h0
      have hB : (#[.int .u8 ((n : Int) / 2 ^ (8 * j) % 256)] : Array Value) = (u8s [UInt8.ofNat (n / 256 ^ j)]).toArray := by
        show _ = (#[.int .u8 ((UInt8.ofNat (n / 256 ^ j)).toNat : Int)] : Array Value)
        rw [byte_of, ← pow256]; rfl
      have HB := hide hB
      clear hB
      have hlen : (bs ++ (be size n).take (size - (j + 1))).length ≤ bs.length + 8 := by rw [List.length_append, List.length_take]; omega
      have HCALL := hide (kw_lay_new pb A' c' _ [UInt8.ofNat (n / 256 ^ j)] _ 1 wr HW2.out rfl HB.out (by simp only [List.length_cons, List.length_nil]; omega))
      rw [List.append_assoc, ← be_take n size j (by omega)] at HCALL
      go_wp2_with fail
      refine HCALL.out.mono ?_
      rintro e w2 ⟨A2, c2, rfl, h1, h2⟩
      have HW3 := hide h1
      have HG3 := hide (HG2.out.trans h2)
      clear h1 h2 HCALL hlen
      go_wp2_with fail
      go_roundg (j + 1)
      case measure => omega
      case rel => exact ⟨j, (j : Int) - 1, A2, c2, by omega, rfl, by omega, rfl, HW3.out, HG3.out⟩

/-- Bytes that the writer does not touch. -/
def Apart (w : World) (pb : Nat) (A : Option Addr) (n c : Nat) (p : Addr) (u : Value) : Prop := w.cell? p = some u ∧ p.block < w.heap.size ∧ p.block ≠ pb ∧ Value.ownBlock (.slice A n c) ≠ some p.block
theorem WG.cell {w w' : World} {pb n c : Nat} {A : Option Addr} {v' : Value} (h : WG w pb (.slice A n c) w' v') {p : Addr} {u : Value} (hp : Apart w pb A n c p u) : w'.cell? p = some u :=
  (World.cell?_of_block (h.kept.block p.block hp.2.1 (fun q => q.elim hp.2.2.1 hp.2.2.2))).trans hp.1
set_option maxHeartbeats 3200000 in
theorem kw_string (pb : Nat) (A : Option Addr) (c : Nat) (bs : List UInt8) (b : List UInt8) (B : Option Addr) (bc : Nat) (w : World) (h : Wr w pb A c bs) (hb : Reads (Apart w pb A bs.length c) 1 B b.length (u8s b))
    (hl : bs.length + 2 * b.length + 2 ≤ 140737488355328) : Calls Tryd.prog 144 #[.pointer (some ⟨pb, 0, none⟩), .slice B b.length bc] w (WrC w pb A bs.length c (bs ++ esc b)) := by
  have HW := hide h
  have HB := hide hb
  have hbl : b.length ≤ 140737488355328 := by omega
  clear h hb
  go_enter Tryd.func144, Tryd.ntmps144
  go_wp2_with fail
  go_loopg [5, 8] (b.length + 1) (fun gk _ i wr => ∃ (k : Nat) (A' : Option Addr) (c' : Nat), k ≤ b.length ∧ gk + k = b.length + 1 ∧ i = .int .i64 k ∧ Wr wr pb A' c' (bs ++ escB (b.take k)) ∧
    WG w pb (.slice A bs.length c) wr (.slice A' (bs ++ escB (b.take k)).length c'))
  case atStart => exact ⟨0, A, c, Nat.zero_le _, rfl, rfl, by rw [List.take_zero, escB, List.append_nil]; exact HW.out, by rw [List.take_zero, escB, List.append_nil]; exact WG.refl _ _ _⟩
  case round =>
    obtain ⟨k, A', c', hk, hg, rfl, hw, hgr⟩ := hrel
    have HW2 := hide hw
    have HG2 := hide hgr
    clear hw hgr
    by_cases hlt : k < b.length
    · obtain ⟨gk', rfl⟩ : ∃ g, gk = g + 1 := ⟨gk - 1, by omega⟩
      obtain ⟨bk, o, rfl, hcell⟩ := HB.out.2 (by omega)
      have hc := HG2.out.cell (hcell k _ (u8s_get b k hlt))
      have hcell2 := HG2.out.kept.size
      have hlt2 := (hcell k _ (u8s_get b k hlt)).2.1
      have hstep : escB (b.take (k + 1)) = escB (b.take k) ++ (if b[k] = 0 then [0, 255] else [b[k]]) := by rw [take_snoc b k hlt, escB_snoc]
      have hel : (bs ++ escB (b.take k)).length ≤ bs.length + 2 * b.length := by
        have := (escB_length (b.take k)).2
        rw [List.length_take] at this
        rw [List.length_append]; omega
      clear hcell
      by_cases hx : b[k] = 0
      · rw [if_pos hx] at hstep
        rw [hx] at hc
        have hc' : wr.cell? ⟨bk, o + k, none⟩ = some (.int .u8 0) := hc
        have HST := hide hstep
        have HC1 := hide (kw_lay_new pb A' c' _ [0] #[.int .u8 0] 1 wr HW2.out rfl rfl (by simp only [List.length_cons, List.length_nil]; omega))
        have hel2 : (bs ++ escB (b.take k) ++ [0]).length ≤ bs.length + 2 * b.length + 1 := by rw [List.length_append]; simp only [List.length_cons, List.length_nil]; omega
        clear hx hstep hc
        go_wp2_with fail
        refine HC1.out.mono ?_
        rintro e w2 ⟨A2, c2, rfl, h1, h2⟩
        have HC2 := hide (kw_lay_new pb A2 c2 _ [255] #[.int .u8 255] 1 w2 h1 rfl rfl (by simp only [List.length_cons, List.length_nil]; omega))
        have HG3 := hide (HG2.out.trans h2)
        clear h1 h2 HC1
        go_wp2_with fail
        refine HC2.out.mono ?_
        rintro e w3 ⟨A3, c3, rfl, h1, h2⟩
        have e1 : bs ++ escB (b.take k) ++ [0] ++ [255] = bs ++ escB (b.take (k + 1)) := by rw [HST.out]; simp
        rw [e1] at h1 h2
        have HW4 := hide h1
        have HG4 := hide (HG3.out.trans h2)
        clear h1 h2 HC2 hel hel2 hc' e1
        go_wp2_with fail
        go_roundg gk'
        case measure => omega
        case rel => exact ⟨k + 1, A3, c3, by omega, by omega, by go_num, HW4.out, HG4.out⟩
      · rw [if_neg hx] at hstep
        have HST := hide hstep
        obtain ⟨x, hxx⟩ : ∃ x, b[k] = x := ⟨_, rfl⟩
        obtain ⟨m, hm⟩ : ∃ m, x.toNat = m := ⟨_, rfl⟩
        have hne : ((m : Int) == 0) = false := by
          have : m ≠ 0 := by
            intro e
            apply hx
            rw [hxx]
            apply UInt8.toNat_inj.1
            rw [hm, e]; rfl
          simp; omega
        rw [hxx] at HST
        rw [hxx, hm] at hc
        have HC1 := hide (kw_lay_new pb A' c' _ [x] #[.int .u8 (m : Int)] 1 wr HW2.out rfl (by rw [← hm]; rfl) (by simp only [List.length_cons, List.length_nil]; omega))
        clear hx hstep hxx hm
        go_wp2_with fail
        refine HC1.out.mono ?_
        rintro e w2 ⟨A2, c2, rfl, h1, h2⟩
        have e1 : bs ++ escB (b.take k) ++ [x] = bs ++ escB (b.take (k + 1)) := by rw [HST.out]; simp
        rw [e1] at h1 h2
        have HW4 := hide h1
        have HG4 := hide (HG2.out.trans h2)
        clear h1 h2 HC1 hel hc e1
        go_wp2_with fail
        go_roundg gk'
        case measure => omega
        case rel => exact ⟨k + 1, A2, c2, by omega, by omega, by go_num, HW4.out, HG4.out⟩
    · obtain rfl : k = b.length := by omega
      rw [List.take_length] at HW2 HG2
      have hel : (bs ++ escB b).length ≤ bs.length + 2 * b.length := by
        have := (escB_length b).2
        rw [List.length_append]; omega
      have HC1 := hide (kw_lay_new pb A' c' _ [0, 0] #[.int .u8 0, .int .u8 0] 2 wr HW2.out rfl rfl (by simp only [List.length_cons, List.length_nil]; omega))
      rw [List.append_assoc] at HC1
      clear hg hel
      go_wp2_with fail
      refine HC1.out.mono ?_
      rintro e w2 ⟨A2, c2, rfl, h1, h2⟩
      have HW4 := hide h1
      have HG4 := hide (HG2.out.trans h2)
      clear h1 h2 HC1
      go_wp2_with fail
      go_end0
      exact ⟨A2, c2, rfl, HW4.out, HG4.out⟩
end Go.Proofs.YticgdjnekbobgaaDoor
