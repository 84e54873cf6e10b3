import Derived.Test.YtmnpmjphhkiedaaT22
import Derived.Test.YtmnpmjphhkiedaaT20
namespace Go.Proofs.Ytmnpmjphhkiedaa.LF
open Go.RowKit Go.Proofs.YtmnpmjphhkiedaaW.PrintWords Go.Proofs.YtmnpmjphhkiedaaW.PrintLast Go.Proofs.YtmnpmjphhkiedaaW.PrintMore Go.Proofs.Ytmnpmjphhkiedaa.PLfibActs Go.Proofs.Ytmnpmjphhkiedaa.Lib

set_option maxRecDepth 100000 in
set_option maxHeartbeats 4000000 in
theorem nobody_walk (vk : Value) (lb nx ll : Int) (A : Option Addr) (c : Nat) (q : Pkt) (w : World) (hp : PktAt w A c q) :
    Calls Try.prog 10 #[.agg #[vk, .int .i64 lb, .int .i64 nx, .int .i64 ll, .slice A q.st.length c, .int .i64 q.tun, .int .i64 q.ttl, .string q.pay]] w fun e w' => e = .returned (.bool true) ∧ Below w.heap.size w w' := by
  obtain ⟨cs, hcs⟩ : ∃ cs : Array Value, cs = #[vk, .int .i64 lb, .int .i64 nx, .int .i64 ll, .slice A q.st.length c, .int .i64 q.tun, .int .i64 q.ttl, .string q.pay] := ⟨_, rfl⟩
  obtain ⟨w0, hw0⟩ : ∃ w0, w0 = w.alloc (.cells cs 34) := ⟨_, rfl⟩
  have HB0 : Aside0 (Below w.heap.size w w0) := ⟨by rw [hw0]; exact (Below.refl _ _).alloc (Nat.le_refl _) _⟩
  have HX0 : Aside0 (w0.heap[w.heap.size]? = some (.cells cs 34 (0, 0))) := ⟨by rw [hw0]; exact blk_new w _⟩
  have HP := Aside0.mk hp
  clear hp
  go_enter Try.func10, Try.ntmps10
  go_wp2_with fail
  rw [← hcs, ← hw0]
  have HCS := Aside0.mk hcs
  clear hw0 hcs
  refine (alive_any _).mono ?_
  rintro e w1 ⟨rfl, hb1⟩
  have HB1 := Aside0.mk (below_step HB0.out hb1)
  have HX1 := Aside0.mk (blk_below HX0.out hb1)
  clear hb1
  go_wp2_with fail
  obtain ⟨tb, htb⟩ : ∃ tb, tb = w1.heap.size := ⟨_, rfl⟩
  obtain ⟨w2, hw2⟩ : ∃ w2, w2 = (w1.alloc (.cells #[.slice none 0 0, .int .i64 0, .slice none 0 0, .int .i64 0, .bool false] 115)).alloc (.cells #[.pointer none, .pointer (some ⟨w1.heap.size, 0, none⟩)] 27) := ⟨_, rfl⟩
  rw [← hw2]
  have hb12 : Below w1.heap.size w1 w2 := by rw [hw2]; exact ((Below.refl _ _).alloc (Nat.le_refl _) _).alloc (by simp) _
  have HB2 := Aside0.mk (below_step HB1.out hb12)
  have HX2 := Aside0.mk (blk_below HX1.out hb12)
  have HTB : Aside0 (w2.heap[tb]? = some (.cells #[.slice none 0 0, .int .i64 0, .slice none 0 0, .int .i64 0, .bool false] 115 (0, 0))) := ⟨by rw [hw2, htb]; exact blk_alloc (blk_new w1 _) _⟩
  have HLS : Aside0 (w2.heap[tb + 1]? = some (.cells #[.pointer none, .pointer (some ⟨tb, 0, none⟩)] 27 (0, 0))) := ⟨by rw [hw2, htb]; have := blk_new (w1.alloc (.cells #[.slice none 0 0, .int .i64 0, .slice none 0 0, .int .i64 0, .bool false] 115)) (.cells #[.pointer none, .pointer (some ⟨w1.heap.size, 0, none⟩)] 27); simpa using this⟩
  rw [← htb]
  clear hw2 htb hb12
  go_loopw [20] (fun v20 wr => ∃ k : Nat, k ≤ 2 ∧ v20 = .int .i64 k ∧ Aside0 (Below w2.heap.size w2 wr)) (fun v20 _ => 2 - (intOf v20).toNat)
  case atStart => exact ⟨0, by omega, rfl, ⟨Below.refl _ _⟩⟩
  case round =>
    obtain ⟨k, hk, rfl, HBr⟩ := hrel
    by_cases hlt : k < 2
    · obtain ⟨a, ha, hbad⟩ : ∃ a, wr.cell? ⟨tb + 1, k, none⟩ = some (.pointer a) ∧ Bad wr a := by
        have h1 := blk_below HLS.out HBr.out
        have h2 := blk_below HTB.out HBr.out
        rcases (by omega : k = 0 ∨ k = 1) with rfl | rfl
        · exact ⟨none, (blk_cell h1 0).trans rfl, .inl rfl⟩
        · exact ⟨_, (blk_cell h1 1).trans rfl, .inr ⟨tb, rfl, (blk_cell h2 4).trans rfl⟩⟩
      have HBAD := Aside0.mk hbad
      have hx := blk_below HX2.out HBr.out
      rw [HCS.out] at hx
      have y4 := (blk_cell hx 4).trans rfl; have y5 := (blk_cell hx 5).trans rfl; have y6 := (blk_cell hx 6).trans rfl; have y7 := (blk_cell hx 7).trans rfl
      have HX := Aside0.mk hx
      clear hbad hx
      go_wp2_with fail
      refine (step_unmade a A c q _ HBAD.out).mono ?_
      rintro e w5 ⟨A3, c3, rfl, hC, hlc, hb3, _⟩
      have HB5 := Aside0.mk (hb3)
      have HBAD5 := Aside0.mk (HBAD.out.below hb3)
      have HX5 := Aside0.mk (blk_below HX.out hb3)
      clear hC hlc hb3 y4 y5 y6 y7
      go_wp2_with fail
      refine (same_empty A3 c3 _).mono ?_
      rintro e w6 ⟨rfl, b6'⟩
      have b6 : Below w5.heap.size w5 w6 := ((Below.refl _ _).alloc (Nat.le_refl _) _).trans (b6'.mono (by simp))
      have HB6 := Aside0.mk (below_step HB5.out b6)
      have HBAD6 := Aside0.mk (HBAD5.out.below b6)
      have HX6 := Aside0.mk (blk_below HX5.out b6)
      have y1 := (blk_cell HX6.out 1).trans rfl; have y2 := (blk_cell HX6.out 2).trans rfl; have y3 := (blk_cell HX6.out 3).trans rfl
      clear b6 b6'
      go_wp2_with fail
      clear y1 y2 y3
      refine (bind_bad a lb nx ll _ HBAD6.out).mono ?_
      rintro e w7 ⟨rfl, b7⟩
      have HB7 := Aside0.mk (below_step HB6.out b7)
      have HBAD7 := Aside0.mk (HBAD6.out.below b7)
      have HX7 := Aside0.mk (blk_below HX6.out b7)
      have y1 := (blk_cell HX7.out 1).trans rfl; have y2 := (blk_cell HX7.out 2).trans rfl; have y3 := (blk_cell HX7.out 3).trans rfl
      clear b7
      go_wp2_with fail
      clear y1 y2 y3
      refine (free_bad a lb _ HBAD7.out).mono ?_
      rintro e w8 ⟨rfl, b8⟩
      have HB8 := Aside0.mk (below_step HB7.out b8)
      have HBAD8 := Aside0.mk (HBAD7.out.below b8)
      have HX8 := Aside0.mk (blk_below HX7.out b8)
      have y1 := (blk_cell HX8.out 1).trans rfl; have y2 := (blk_cell HX8.out 2).trans rfl; have y3 := (blk_cell HX8.out 3).trans rfl
      clear b8
      go_wp2_with fail
      clear y1 y2 y3
      refine (map_bad a lb nx ll _ HBAD8.out).mono ?_
      rintro e w9 ⟨rfl, b9⟩
      have HB9 := Aside0.mk (below_step HB8.out b9)
      have HBAD9 := Aside0.mk (HBAD8.out.below b9)
      have HX9 := Aside0.mk (blk_below HX8.out b9)
      have y1 := (blk_cell HX9.out 1).trans rfl; have y2 := (blk_cell HX9.out 2).trans rfl; have y3 := (blk_cell HX9.out 3).trans rfl
      clear b9
      go_wp2_with fail
      clear y1 y2 y3
      refine (unmap_bad a lb _ HBAD9.out).mono ?_
      rintro e w10 ⟨rfl, b10⟩
      have HB10 := Aside0.mk (below_step HB9.out b10)
      have HBAD10 := Aside0.mk (HBAD9.out.below b10)
      have HX10 := Aside0.mk (blk_below HX9.out b10)
      have y1 := (blk_cell HX10.out 1).trans rfl; have y2 := (blk_cell HX10.out 2).trans rfl; have y3 := (blk_cell HX10.out 3).trans rfl
      clear b10
      go_wp2_with fail
      clear y1 y2 y3
      refine (labels_bad a _ HBAD10.out).mono ?_
      rintro e w11 ⟨rfl, b11⟩
      have HB11 := Aside0.mk (below_step HB10.out b11)
      have HBAD11 := Aside0.mk (HBAD10.out.below b11)
      have HX11 := Aside0.mk (blk_below HX10.out b11)
      have y1 := (blk_cell HX11.out 1).trans rfl; have y2 := (blk_cell HX11.out 2).trans rfl; have y3 := (blk_cell HX11.out 3).trans rfl
      clear b11
      go_wp2_with fail
      clear y1 y2 y3
      refine (tunnels_bad a _ HBAD11.out).mono ?_
      rintro e w12 ⟨rfl, b12⟩
      have HB12 := Aside0.mk (below_step HB11.out b12)
      have HBAD12 := Aside0.mk (HBAD11.out.below b12)
      have HX12 := Aside0.mk (blk_below HX11.out b12)
      have y1 := (blk_cell HX12.out 1).trans rfl; have y2 := (blk_cell HX12.out 2).trans rfl; have y3 := (blk_cell HX12.out 3).trans rfl
      clear b12
      go_wp2_with fail
      clear y1 y2 y3
      go_roundw
      case rel => exact ⟨k + 1, hlt, rfl, ⟨below_step HBr.out HB12.out⟩⟩
      case measure => simp [intOf]; omega
    · go_wp2_with fail
      have e2 : bindL [] 3 16 1 17 = ([⟨16, ⟨1, 17⟩⟩], 0) := rfl
      have o2 : OutsOk [⟨16, ⟨1, 17⟩⟩] := by have := outs_bind (most := 3) (label := 16) (n := 1) (l := 17) outs_nil; rwa [e2] at this
      have s1 : stepP [⟨16, ⟨1, 17⟩⟩] [] ⟨[⟨16, 0, 5⟩, ⟨99, 0, 5⟩], 0, 0, ⟨#[]⟩⟩ = (1, ⟨[⟨17, 0, 4⟩, ⟨99, 0, 5⟩], 0, 0, ⟨#[]⟩⟩, 0) := rfl
      have E2 := Aside0.mk e2; have O2 := Aside0.mk o2; have S1 := Aside0.mk s1
      have HBR := Aside0.mk (below_step HB2.out HBr.out)
      clear e2 o2 s1 HTB HLS HX1 HX0 HB1 HB0 HB2 HX2 HBr
      refine (new_yes 3 _ (by omega) (by omega)).mono ?_
      rintro e w5 ⟨rfl, hb5, ht5⟩
      obtain ⟨tc, htc⟩ : ∃ tc, tc = wr.heap.size := ⟨_, rfl⟩
      rw [← htc] at ht5 ⊢
      have HT5 := Aside0.mk ht5
      have HB5 := Aside0.mk (below_step HBR.out hb5)
      have htw : w.heap.size ≤ tc := by have := HBR.out.size; omega
      clear hb5 ht5 htc
      go_wp2_with fail
      refine (bind_any tc _ 3 [] [] 16 1 17 _ HT5.out).mono ?_
      rintro e w6 ⟨F6, rfl, ht6, hc6, hf6⟩
      rw [E2.out] at ht6
      have HT6 := Aside0.mk ht6
      have HB6 : Aside0 (Below w.heap.size w w6) := ⟨HB5.out.trans (hc6.below HB5.out.size (fun k hk => by omega))⟩
      clear ht6 hc6 hf6
      go_wp2_with fail
      obtain ⟨g, hg⟩ : ∃ g, g = w6.heap.size := ⟨_, rfl⟩
      obtain ⟨w7, hw7⟩ : ∃ w7, w7 = ((w6.alloc (.cells #[.int .i64 16, .int .i64 0, .int .i64 5, .int .i64 99, .int .i64 0, .int .i64 5] 118)).alloc (.cells #[.slice (some ⟨w6.heap.size, 0, none⟩) 2 2, .int .i64 0, .int .i64 0, .string ⟨#[]⟩] 25)) := ⟨_, rfl⟩
      rw [← hw7]
      have hb7 : Below w6.heap.size w6 w7 := by rw [hw7]; exact below_two
      have HG7 : Aside0 (w7.heap[g]? = some (.cells #[.int .i64 16, .int .i64 0, .int .i64 5, .int .i64 99, .int .i64 0, .int .i64 5] 118 (0, 0))) := ⟨by rw [hw7, hg]; exact blk_alloc (blk_new w6 _) _⟩
      have HP7 : Aside0 (w7.heap[g + 1]? = some (.cells #[.slice (some ⟨g, 0, none⟩) 2 2, .int .i64 0, .int .i64 0, .string ⟨#[]⟩] 25 (0, 0))) := ⟨by
        rw [hw7, hg]
        have := blk_new (w6.alloc (.cells #[.int .i64 16, .int .i64 0, .int .i64 5, .int .i64 99, .int .i64 0, .int .i64 5] 118)) (.cells #[.slice (some ⟨w6.heap.size, 0, none⟩) 2 2, .int .i64 0, .int .i64 0, .string ⟨#[]⟩] 25)
        simpa using this⟩
      have hs7 : w7.heap.size = g + 2 := by rw [hw7, hg]; simp
      have hgw : w.heap.size ≤ g := by have := HB6.out.size; omega
      rw [← hg]
      obtain ⟨F7, hT7, hF7⟩ := (HT6.out.below hb7).tight
      have HT7 := Aside0.mk hT7
      have NF7 : Aside0 (∀ k, F7 k → k < g + 2) := ⟨fun k hk => by have := (hF7 k hk).2; omega⟩
      have HB7 := Aside0.mk (below_step HB6.out hb7)
      have hO : Own118 w7 0 (.slice (some ⟨g, 0, none⟩) 2 2) [⟨16, 0, 5⟩, ⟨99, 0, 5⟩] := ⟨by simp [cellsOf, c118], .inr ⟨g, 2, _, rfl, Nat.zero_le _, HG7.out, by simp, by simp [maxLen], by simp, rfl⟩⟩
      obtain ⟨A7, c7, e7, h71, h72, hC7⟩ := hO.read
      cases e7
      have HPK : Aside0 (PktAt w7 (some ⟨g, 0, none⟩) 2 ⟨[⟨16, 0, 5⟩, ⟨99, 0, 5⟩], 0, 0, ⟨#[]⟩⟩) := ⟨⟨hC7, Nat.le_refl _, by decide, by decide, by decide, by decide⟩⟩
      clear hw7 hb7 hO hC7 h71 h72 hg hT7 hF7
      refine (step_any tc F7 3 [⟨16, ⟨1, 17⟩⟩] [] (some ⟨g, 0, none⟩) 2 ⟨[⟨16, 0, 5⟩, ⟨99, 0, 5⟩], 0, 0, ⟨#[]⟩⟩ _ HT7.out HPK.out O2.out outs_nil).mono ?_
      rw [S1.out]
      rintro e w8 ⟨A8, c8, rfl, hC8, hlc8, hb8, hk8⟩
      simp only [List.length_cons, List.length_nil] at hC8 hlc8 hk8
      obtain ⟨ad, hA, _⟩ := hC8.2.2 (by omega)
      subst hA
      obtain ⟨hadl, hcu⟩ := hk8 ad rfl
      obtain ⟨cur, hcur⟩ := hcu (by simp)
      have HCU := Aside0.mk hcur
      have HC8 := Aside0.mk hC8
      have HT8 := Aside0.mk (HT7.out.below hb8)
      have HB8 := Aside0.mk (below_step HB7.out hb8)
      have HG8 := Aside0.mk (blk_below HG7.out hb8)
      have HP8 := Aside0.mk (blk_below HP7.out hb8)
      have hs8 := hb8.size
      clear hC8 hcur hcu hk8 hb8
      have p0 : ∀ o, (w8.alloc o).cell? ⟨g + 1, 0, none⟩ = some (.slice (some ⟨g, 0, none⟩) 2 2) := fun o => Lib.cell?_alloc_some _ ((blk_cell HP8.out 0).trans rfl)
      have g0 : ∀ o, (w8.alloc o).cell? ⟨g, 0, none⟩ = some (.int .i64 16) := fun o => Lib.cell?_alloc_some _ ((blk_cell HG8.out 0).trans rfl)
      have g1 : ∀ o, (w8.alloc o).cell? ⟨g, 1, none⟩ = some (.int .i64 0) := fun o => Lib.cell?_alloc_some _ ((blk_cell HG8.out 1).trans rfl)
      have g2 : ∀ o, (w8.alloc o).cell? ⟨g, 2, none⟩ = some (.int .i64 5) := fun o => Lib.cell?_alloc_some _ ((blk_cell HG8.out 2).trans rfl)
      have hq := eqA118
      obtain ⟨_, e8, d0, _, _⟩ := at118 HC8.out (Below.refl _ _) 1 (by omega)
      cases e8
      have d1 : ∀ o, (w8.alloc o).cell? ⟨ad.block, ad.off + 3, none⟩ = some (.int .i64 99) := fun o => Lib.cell?_alloc_some _ (by simpa [Addr.add, r118] using d0)
      have d2 : ∀ o, (w8.alloc o).frozen? ⟨ad.block, ad.off + 3, none⟩ = false := fun o => blk_frozen (blk_alloc HCU.out o) _
      clear d0
      go_wp2_with fail
      obtain ⟨w9, hw9⟩ : ∃ w9, w9 = ((w8.alloc (.cells #[.slice (some ad) 2 c8, .int .i64 0, .int .i64 0, .string ⟨#[]⟩] 25)).setCell ⟨ad.block, ad.off + 3, none⟩ (.int .i64 7)) := ⟨_, rfl⟩
      rw [← hw9]
      have hc9 : Chg (fun k => k = ad.block) w8 w9 := by rw [hw9]; exact ((Chg.refl (fun k => k = ad.block) w8).alloc _).put ad.block _ (.inl rfl) _
      have hb9 : Below w.heap.size w8 w9 := hc9.below (by omega) (fun k hk => by omega)
      have HB9 : Aside0 (Below w.heap.size w w9) := ⟨HB8.out.trans hb9⟩
      have HT9 := Aside0.mk (HT8.out.kept hc9 (fun k hk e => by have := NF7.out k hk; omega))
      have HG9 := Aside0.mk (blk_kept hc9 HG8.out (by omega))
      have HP9 := Aside0.mk (blk_kept hc9 HP8.out (by omega))
      have hs9 := hc9.size
      clear hw9 hc9 hb9 d1 d2 g0 g1 g2 p0 hq
      refine (labels_any tc F7 3 _ [] _ HT9.out).mono ?_
      rintro e w10 ⟨va, rfl, oa, ba, hva⟩
      obtain ⟨Aa, ca, eva⟩ := own_slice oa
      subst eva
      rcases oa.2 with ⟨h0, _⟩ | ⟨ga, ka, cua, e1, _, hga, hna, hma, hsa, hta⟩
      · cases h0
      injection e1 with e1 e2 e3
      subst e1 e3
      have hgal := hva ga rfl
      have a0 : w10.cell? ⟨ga, 0, none⟩ = some (.int .i64 16) := by
        obtain ⟨_, e, c0, _⟩ := at95 (own_C oa).1 (Below.refl _ _) 0 (by simp)
        cases e
        simpa [Addr.add, r95] using c0
      have a1 : w10.frozen? ⟨ga, 0, none⟩ = false := blk_frozen hga _
      have HB10 := Aside0.mk (below_step HB9.out ba)
      have HT10 := Aside0.mk (HT9.out.below ba)
      have HG10 := Aside0.mk (blk_below HG9.out ba)
      have HP10 := Aside0.mk (blk_below HP9.out ba)
      have p0 := (blk_cell HP10.out 0).trans rfl
      have g3 := (blk_cell HG10.out 3).trans rfl
      have l10 := ba.size
      clear oa ba hva hga hna hma hsa hta
      go_wp2_with fail
      obtain ⟨w11, hw11⟩ : ∃ w11, w11 = w10.setCell ⟨ga, 0, none⟩ (.int .i64 99) := ⟨_, rfl⟩
      rw [← hw11]
      have hc11 : Chg (fun k => k = ga) w10 w11 := by rw [hw11]; exact Chg.one w10 ga 0 _
      have HB11 : Aside0 (Below w.heap.size w w11) := ⟨HB10.out.trans (hc11.below (by omega) (fun k hk => by omega))⟩
      have HT11 := Aside0.mk (HT10.out.kept hc11 (fun k hk e => by have := NF7.out k hk; omega))
      clear hw11 hc11 p0 g3 a0 a1
      refine (labels_any tc F7 3 _ [] _ HT11.out).mono ?_
      rintro e w12 ⟨vb, rfl, ob, bb, hvb⟩
      obtain ⟨Ab, cb, evb⟩ := own_slice ob
      subst evb
      obtain ⟨ab, e, b0, _⟩ := at95 (own_C ob).1 (Below.refl _ _) 0 (by simp)
      subst e
      have b0' : w12.cell? ab = some (.int .i64 16) := by simpa [Addr.add, r95] using b0
      have HB12 := Aside0.mk (below_step HB11.out bb)
      clear ob bb hvb b0
      go_wp2_with fail
      go_ret
      exact ⟨rfl, HB12.out⟩
end Go.Proofs.Ytmnpmjphhkiedaa.LF
