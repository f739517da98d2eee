/- What the laws of a pair are proved with: links and pairs in memory, what their methods do, what a pair keeps to (part 5). -/
import Derived.Test.YtnkkgofpifhoeaaPG04
set_option linter.unusedSimpArgs false
set_option linter.unusedVariables false
set_option maxRecDepth 100000
set_option maxHeartbeats 16000000
namespace Go.Proofs.Ytnkkgofpifhoeaa
theorem Z1 {p:Prop} (h:p:=by
 refine Qx (i:=0) (j:=5) (Ni:=some 24) (Nj:=some 4) ZR rq rfl rfl rfl rfl (by kernel_rfl) (by decide) (by decide) (fun K hK => ?_) (fun K hK => ?_)
 ·skip
  refine BK Try.func59 (by kernel_rfl) rfl #[] (by rfl) rfl rfl (by (try simp only [List.map_toArray,List.map_cons,List.map_nil]); first | done | rfl) ?_
  refine (rows_any _).mono ?_
  rintro e w2 ⟨rfl,hb⟩
  refine ⟨_,rfl,?_⟩
  have hH2:=(hb.cell (World.block_lt_of_cell? _ _ hHeld)).trans hHeld
  have HW2:=Lib.hid (HW.out.trans (hb.mono HW.out.size))
  have HP2:=Lib.hid ((hb.block w.heap.size (AU HP.out)).trans HP.out)
  refine hK.out _ _ hH2 (fun hHeld => ?_)
  clear hK K
  refine nm 24 ?_
  refine pu 4 28 ZT ?_
  refine on 5 (some 4) MR fun K hK => ?_
  refine Dt (by rfl) (N:=4) rfl (cs:=#[.bool false,.bool false,.bool false,.bool false,.int .i64 0,.int .i64 0]) (t:=107) (by first | (go_simp; done) | (go_simp; rfl)) ?_
  intro g hg w3 hbx hb3
  have hH3:=(hb3.cell (World.block_lt_of_cell? _ _ hHeld)).trans hHeld
  have hgt:w.heap.size < g:=by have:=AU HP2.out; omega
  have HW3:=Lib.hid (HW2.out.trans (hb3.mono HW2.out.size))
  have yE:=Lib.hid ((hb3.block w.heap.size (AU HP2.out)).trans HP2.out)
  refine hK.out _ _ hH3 (fun hHeld => ?_)
  clear hK K
  have h9:=hcont g w3 ⟨hbx,HW3.out,hgt,yE.out,hHeld⟩
  simp only [Ak,Act.put,sA,sZ,sS] at h9
  refine nm 4 ?_
  exact h9
 ·skip
  refine Dt (by rfl) (N:=4) rfl (cs:=#[.bool false,.bool false,.bool false,.bool false,.int .i64 0,.int .i64 0]) (t:=107) (by first | (go_simp; done) | (go_simp; rfl)) ?_
  intro g hg w3 hbx hb3
  have hH3:=(hb3.cell (World.block_lt_of_cell? _ _ hHeld)).trans hHeld
  have hgt:w.heap.size < g:=by have:=AU HP.out; omega
  have Aq:=Lib.hid (HW.out.trans (hb3.mono HW.out.size))
  have Bd:=Lib.hid ((hb3.block w.heap.size (AU HP.out)).trans HP.out)
  refine hK.out _ _ hH3 (fun hHeld => ?_)
  clear hK K
  clear HW HP
  have HW:=Aq
  have HP:=Bd
  clear Aq Bd
  refine nm 4 ?_
  refine on 0 (some 24) ru fun K hK => ?_
  refine BK Try.func59 (by kernel_rfl) rfl #[] (by rfl) rfl rfl (by (try simp only [List.map_toArray,List.map_cons,List.map_nil]); first | done | rfl) ?_
  refine (rows_any _).mono ?_
  rintro e w2 ⟨rfl,hb⟩
  refine ⟨_,rfl,?_⟩
  have hH2:=(hb.cell (World.block_lt_of_cell? _ _ hHeld)).trans hHeld
  have HW2:=Lib.hid (HW.out.trans (hb.mono HW.out.size))
  have HP2:=Lib.hid ((hb.block w.heap.size (AU HP.out)).trans HP.out)
  have hbx2:=(hb.block g (AU hbx)).trans hbx
  refine hK.out _ _ hH2 (fun hHeld => ?_)
  clear hK K
  refine nm 24 ?_
  refine pu 4 28 MR ?_
  have h9:=hcont g w2 ⟨hbx2,HW2.out,hgt,HP2.out,hHeld⟩
  simp only [Ak,Act.put,sA,sZ,sS] at h9
  exact h9):p:=h
theorem Z8 {p:Prop} (h:p:=by
 go_wp2_with (((with_reducible refine gate_ (.store 27 (.tmp 2) (.tmp 34)) rfl ?_); refine Ae rfl rfl 27 (.tmp 2) (.tmp 34) rfl w.heap.size _ rfl rfl 27 _ Fe.out (by kernel_rfl) rfl (by kernel_rfl) ?_; intro w5 hb5 CQ; have Hy:=Lib.hid hb5; have Ey:=Lib.hid CQ; clear hb5 CQ))
 refine bodyPost_ret (v:=.tuple #[.agg #[.int .i64 0,.int .u32 0,.int .u32 0,.int .u32 0,.int .u32 0,.int .u32 0,.int .u32 0,.int .u32 0,.complex .f64 0 0,.slice none 0 0],.int .i64 103]) ?_ rfl ⟨rfl,Ey.out.below EC.out (Nat.le_refl _)⟩
 have hl5:=run_loadVar_row (P:=Try.prog) w5 w.heap.size 27 27 _ (0,0) _ Hy.out Try.underlying27 rfl (by kernel_rfl)
 exact Ag Try.results16 _ _ rfl rfl hl5):p:=h
theorem iC {p:Prop} (h:p:=by
 refine AQ (cs:=#[.bool true,.bool false,.bool false,.bool false,.int .i64 14,.int .i64 0]) ?_ 5 _ rfl
 refine AQ (cs:=#[.bool true,.bool false,.bool false,.bool false,.int .i64 0,.int .i64 0]) ?_ 4 _ rfl
 refine AQ (cs:=#[.bool true,.bool false,.bool false,.bool false,.int .i64 0,.int .i64 0]) ?_ 3 _ rfl
 refine AQ (cs:=#[.bool true,.bool false,.bool false,.bool false,.int .i64 0,.int .i64 0]) ?_ 2 _ rfl
 refine AQ (cs:=#[.bool true,.bool false,.bool false,.bool false,.int .i64 0,.int .i64 0]) ?_ 1 _ rfl
 refine AQ (cs:=#[.bool false,.bool false,.bool false,.bool false,.int .i64 0,.int .i64 0]) ?_ 0 _ rfl
 exact hbx):p:=h
theorem Z9 {p:Prop} (h:p:=by
 go_wp2_with (((with_reducible refine gate_ (.store 27 (.tmp 2) (.tmp 40)) rfl ?_); refine Ae rfl rfl 27 (.tmp 2) (.tmp 40) rfl w.heap.size _ rfl rfl 27 _ Fe.out (by kernel_rfl) rfl (by kernel_rfl) ?_; intro w5 hb5 CQ; have Hy:=Lib.hid hb5; have Ey:=Lib.hid CQ; clear hb5 CQ))
 refine bodyPost_ret (v:=.tuple #[.agg #[.int .i64 0,.int .u32 0,.int .u32 0,.int .u32 0,.int .u32 0,.int .u32 0,.int .u32 0,.int .u32 0,.complex .f64 0 0,.slice none 0 0],.int .i64 102]) ?_ rfl ⟨rfl,Ey.out.below EC.out (Nat.le_refl _)⟩
 have hl5:=run_loadVar_row (P:=Try.prog) w5 w.heap.size 27 27 _ (0,0) _ Hy.out Try.underlying27 rfl (by kernel_rfl)
 exact Ag Try.results16 _ _ rfl rfl hl5):p:=h
theorem Z0 {p:Prop} (h:p:=by
 refine Qx (i:=5) (j:=14) (Ni:=some 50) (Nj:=some 6) ry sD rfl rfl rfl rfl (by kernel_rfl) (by decide) (by decide) (fun K hK => ?_) (fun K hK => ?_)
 ·skip
  refine BK Try.func60 (by kernel_rfl) rfl #[.pointer (some ⟨gr,0,none⟩),.int .i64 4] (by rfl) rfl rfl (by (try simp only [List.map_toArray,List.map_cons,List.map_nil]); first | done | rfl) ?_
  refine (CP gr _ _ _ _ HR.out (HA.out _ (Kd.BQ HC.out HW.out)) (by have:=hn1.out; (try simp only [AZ]); omega) (by have:=hn1.out; (try simp only [AZ]); omega) (by have:=hn1.out; (try simp only [AZ]); omega)).mono ?_
  rintro e w6 hpost
  unfold Hw at hpost
  obtain ⟨A6,rfl,hw6,IE⟩:=hpost
  refine ⟨_,rfl,?_⟩
  have hat:At gr _ w6:=hw6 ▸ At.set (At.refl _ _) _ _
  have CE:w6.heap[gr]? = some (.cells #[.slice A6 (AO (l1)).length (c - 1 - 4)] 112 (0,0)):=hw6 ▸ AQ HR.out 0 _ rfl
  clear hw6
  have Ew:=(hat.cell (by omega)).trans hHeld
  have Aq:=hat.below HW.out (by omega)
  have Bd:=(hat.block w.heap.size (by omega)).trans HP.out
  have Bj:=(hat.block g (by omega)).trans HB.out
  have EW:=fun W hW => IE W (HA.out W hW)
  clear HR HW HP HB HA IE hat
  have HR:=Lib.hid CE
  have HW:=Lib.hid Aq
  have HP:=Lib.hid Bd
  have HB:=Lib.hid Bj
  have HA:=Lib.hid EW
  clear CE Aq Bd Bj EW
  refine hK.out _ _ Ew (fun hHeld => ?_)
  clear hK K Ew
  refine nm 50 ?_
  refine pu 6 51 M11 ?_
  refine Qx (i:=8) (j:=14) (Ni:=some 53) (Nj:=some 6) M14 nZ rfl rfl rfl rfl (by kernel_rfl) (by decide) (by decide) (fun K hK => ?_) (fun K hK => ?_)
  ·skip
   refine BK Try.func60 (by kernel_rfl) rfl #[.pointer (some ⟨gr,0,none⟩),.int .i64 4] (by rfl) rfl rfl (by (try simp only [List.map_toArray,List.map_cons,List.map_nil]); first | done | rfl) ?_
   refine (CP gr _ _ _ _ HR.out (HA.out _ (Kd.BQ HC.out HW.out)) (by have:=hn1.out; (try simp only [AZ]); omega) (by have:=hn1.out; (try simp only [AZ]); omega) (by have:=hn1.out; (try simp only [AZ]); omega)).mono ?_
   rintro e w6 hpost
   unfold Hw at hpost
   obtain ⟨A6,rfl,hw6,IE⟩:=hpost
   refine ⟨_,rfl,?_⟩
   have hat:At gr _ w6:=hw6 ▸ At.set (At.refl _ _) _ _
   have CE:w6.heap[gr]? = some (.cells #[.slice A6 (AO (AO (l1))).length (c - 1 - 4 - 4)] 112 (0,0)):=hw6 ▸ AQ HR.out 0 _ rfl
   clear hw6
   have Ew:=(hat.cell (by omega)).trans hHeld
   have Aq:=hat.below HW.out (by omega)
   have Bd:=(hat.block w.heap.size (by omega)).trans HP.out
   have Bj:=(hat.block g (by omega)).trans HB.out
   have EW:=fun W hW => IE W (HA.out W hW)
   clear HR HW HP HB HA IE hat
   have HR:=Lib.hid CE
   have HW:=Lib.hid Aq
   have HP:=Lib.hid Bd
   have HB:=Lib.hid Bj
   have HA:=Lib.hid EW
   clear CE Aq Bd Bj EW
   refine hK.out _ _ Ew (fun hHeld => ?_)
   clear hK K Ew
   refine nm 53 ?_
   refine pu 9 54 sF ?_
   refine Qx (i:=11) (j:=14) (Ni:=some 56) (Nj:=some 6) sG jC rfl rfl rfl rfl (by kernel_rfl) (by decide) (by decide) (fun K hK => ?_) (fun K hK => ?_)
   ·skip
    refine BK Try.func60 (by kernel_rfl) rfl #[.pointer (some ⟨gr,0,none⟩),.int .i64 4] (by rfl) rfl rfl (by (try simp only [List.map_toArray,List.map_cons,List.map_nil]); first | done | rfl) ?_
    refine (CP gr _ _ _ _ HR.out (HA.out _ (Kd.BQ HC.out HW.out)) (by have:=hn1.out; (try simp only [AZ]); omega) (by have:=hn1.out; (try simp only [AZ]); omega) (by have:=hn1.out; (try simp only [AZ]); omega)).mono ?_
    rintro e w6 hpost
    unfold Hw at hpost
    obtain ⟨A6,rfl,hw6,IE⟩:=hpost
    refine ⟨_,rfl,?_⟩
    have hat:At gr _ w6:=hw6 ▸ At.set (At.refl _ _) _ _
    have CE:w6.heap[gr]? = some (.cells #[.slice A6 (AO (AO (AO (l1)))).length (c - 1 - 4 - 4 - 4)] 112 (0,0)):=hw6 ▸ AQ HR.out 0 _ rfl
    clear hw6
    have Ew:=(hat.cell (by omega)).trans hHeld
    have Aq:=hat.below HW.out (by omega)
    have Bd:=(hat.block w.heap.size (by omega)).trans HP.out
    have Bj:=(hat.block g (by omega)).trans HB.out
    have EW:=fun W hW => IE W (HA.out W hW)
    clear HR HW HP HB HA IE hat
    have HR:=Lib.hid CE
    have HW:=Lib.hid Aq
    have HP:=Lib.hid Bd
    have HB:=Lib.hid Bj
    have HA:=Lib.hid EW
    clear CE Aq Bd Bj EW
    refine hK.out _ _ Ew (fun hHeld => ?_)
    clear hK K Ew
    refine nm 56 ?_
    refine pu 12 57 sH ?_
    refine pu 13 58 sJ ?_
    refine on 14 (some 6) XG fun K hK => ?_
    refine Dt (by rfl) (N:=6) rfl (cs:=#[.int .i64 0,.int .u32 0,.int .u32 0,.int .u32 0,.int .u32 0,.int .u32 0,.int .u32 0,.int .u32 0,.complex .f64 0 0,.slice none 0 0]) (t:=27) (by first | (go_simp; done) | (go_simp; rfl)) ?_
    intro g6 Q7 w6 hbx hb3
    have hgx:gr < g6:=by have:=AU HR.out; omega
    have Ew:=(hb3.cell (World.block_lt_of_cell? _ _ hHeld)).trans hHeld
    have CE:=(hb3.block gr (AU HR.out)).trans HR.out
    have Aq:=HW.out.trans (hb3.mono HW.out.size)
    have Bd:=(hb3.block w.heap.size (AU HP.out)).trans HP.out
    have Bj:=(hb3.block g (AU HB.out)).trans HB.out
    clear HR HW HP HB
    have HR:=Lib.hid CE
    have HW:=Lib.hid Aq
    have HP:=Lib.hid Bd
    have HB:=Lib.hid Bj
    have HX:=Lib.hid hbx
    clear CE Aq Bd Bj hbx hb3 Q7
    refine hK.out _ _ Ew (fun hHeld => ?_)
    clear hK K Ew
    refine nm 6 ?_
    have h9:=hcont (g6,_) _ ⟨HR.out,HA.out,HW.out,HP.out,HB.out,HX.out,hgx,hHeld⟩
    simp only [Ak,Act.put,sA,sZ,sS] at h9
    exact h9
   ·skip
    refine Dt (by rfl) (N:=6) rfl (cs:=#[.int .i64 0,.int .u32 0,.int .u32 0,.int .u32 0,.int .u32 0,.int .u32 0,.int .u32 0,.int .u32 0,.complex .f64 0 0,.slice none 0 0]) (t:=27) (by first | (go_simp; done) | (go_simp; rfl)) ?_
    intro g6 Q7 w6 hbx hb3
    have hgx:gr < g6:=by have:=AU HR.out; omega
    have Ew:=(hb3.cell (World.block_lt_of_cell? _ _ hHeld)).trans hHeld
    have CE:=(hb3.block gr (AU HR.out)).trans HR.out
    have Aq:=HW.out.trans (hb3.mono HW.out.size)
    have Bd:=(hb3.block w.heap.size (AU HP.out)).trans HP.out
    have Bj:=(hb3.block g (AU HB.out)).trans HB.out
    clear HR HW HP HB
    have HR:=Lib.hid CE
    have HW:=Lib.hid Aq
    have HP:=Lib.hid Bd
    have HB:=Lib.hid Bj
    have HX:=Lib.hid hbx
    clear CE Aq Bd Bj hbx hb3 Q7
    refine hK.out _ _ Ew (fun hHeld => ?_)
    clear hK K Ew
    refine nm 6 ?_
    refine on 11 (some 56) jD fun K hK => ?_
    refine BK Try.func60 (by kernel_rfl) rfl #[.pointer (some ⟨gr,0,none⟩),.int .i64 4] (by rfl) rfl rfl (by (try simp only [List.map_toArray,List.map_cons,List.map_nil]); first | done | rfl) ?_
    refine (CP gr _ _ _ _ HR.out (HA.out _ (Kd.BQ HC.out HW.out)) (by have:=hn1.out; (try simp only [AZ]); omega) (by have:=hn1.out; (try simp only [AZ]); omega) (by have:=hn1.out; (try simp only [AZ]); omega)).mono ?_
    rintro e w6 hpost
    unfold Hw at hpost
    obtain ⟨A6,rfl,hw6,IE⟩:=hpost
    refine ⟨_,rfl,?_⟩
    have hat:At gr _ w6:=hw6 ▸ At.set (At.refl _ _) _ _
    have CE:w6.heap[gr]? = some (.cells #[.slice A6 (AO (AO (AO (l1)))).length (c - 1 - 4 - 4 - 4)] 112 (0,0)):=hw6 ▸ AQ HR.out 0 _ rfl
    clear hw6
    have Ew:=(hat.cell (by omega)).trans hHeld
    have Aq:=hat.below HW.out (by omega)
    have Bd:=(hat.block w.heap.size (by omega)).trans HP.out
    have Bj:=(hat.block g (by omega)).trans HB.out
    have EW:=fun W hW => IE W (HA.out W hW)
    have DJ:=(hat.block g6 (by omega)).trans HX.out
    clear HR HW HP HB HA IE hat HX
    have HR:=Lib.hid CE
    have HW:=Lib.hid Aq
    have HP:=Lib.hid Bd
    have HB:=Lib.hid Bj
    have HA:=Lib.hid EW
    have HX:=Lib.hid DJ
    clear CE Aq Bd Bj EW DJ
    refine hK.out _ _ Ew (fun hHeld => ?_)
    clear hK K Ew
    refine nm 56 ?_
    refine pu 12 57 jE ?_
    refine pu 13 58 XG ?_
    have h9:=hcont (g6,_) _ ⟨HR.out,HA.out,HW.out,HP.out,HB.out,HX.out,hgx,hHeld⟩
    simp only [Ak,Act.put,sA,sZ,sS] at h9
    exact h9
  ·skip
   refine Dt (by rfl) (N:=6) rfl (cs:=#[.int .i64 0,.int .u32 0,.int .u32 0,.int .u32 0,.int .u32 0,.int .u32 0,.int .u32 0,.int .u32 0,.complex .f64 0 0,.slice none 0 0]) (t:=27) (by first | (go_simp; done) | (go_simp; rfl)) ?_
   intro g6 Q7 w6 hbx hb3
   have hgx:gr < g6:=by have:=AU HR.out; omega
   have Ew:=(hb3.cell (World.block_lt_of_cell? _ _ hHeld)).trans hHeld
   have CE:=(hb3.block gr (AU HR.out)).trans HR.out
   have Aq:=HW.out.trans (hb3.mono HW.out.size)
   have Bd:=(hb3.block w.heap.size (AU HP.out)).trans HP.out
   have Bj:=(hb3.block g (AU HB.out)).trans HB.out
   clear HR HW HP HB
   have HR:=Lib.hid CE
   have HW:=Lib.hid Aq
   have HP:=Lib.hid Bd
   have HB:=Lib.hid Bj
   have HX:=Lib.hid hbx
   clear CE Aq Bd Bj hbx hb3 Q7
   refine hK.out _ _ Ew (fun hHeld => ?_)
   clear hK K Ew
   refine nm 6 ?_
   refine on 8 (some 53) ng fun K hK => ?_
   refine BK Try.func60 (by kernel_rfl) rfl #[.pointer (some ⟨gr,0,none⟩),.int .i64 4] (by rfl) rfl rfl (by (try simp only [List.map_toArray,List.map_cons,List.map_nil]); first | done | rfl) ?_
   refine (CP gr _ _ _ _ HR.out (HA.out _ (Kd.BQ HC.out HW.out)) (by have:=hn1.out; (try simp only [AZ]); omega) (by have:=hn1.out; (try simp only [AZ]); omega) (by have:=hn1.out; (try simp only [AZ]); omega)).mono ?_
   rintro e w6 hpost
   unfold Hw at hpost
   obtain ⟨A6,rfl,hw6,IE⟩:=hpost
   refine ⟨_,rfl,?_⟩
   have hat:At gr _ w6:=hw6 ▸ At.set (At.refl _ _) _ _
   have CE:w6.heap[gr]? = some (.cells #[.slice A6 (AO (AO (l1))).length (c - 1 - 4 - 4)] 112 (0,0)):=hw6 ▸ AQ HR.out 0 _ rfl
   clear hw6
   have Ew:=(hat.cell (by omega)).trans hHeld
   have Aq:=hat.below HW.out (by omega)
   have Bd:=(hat.block w.heap.size (by omega)).trans HP.out
   have Bj:=(hat.block g (by omega)).trans HB.out
   have EW:=fun W hW => IE W (HA.out W hW)
   have DJ:=(hat.block g6 (by omega)).trans HX.out
   clear HR HW HP HB HA IE hat HX
   have HR:=Lib.hid CE
   have HW:=Lib.hid Aq
   have HP:=Lib.hid Bd
   have HB:=Lib.hid Bj
   have HA:=Lib.hid EW
   have HX:=Lib.hid DJ
   clear CE Aq Bd Bj EW DJ
   refine hK.out _ _ Ew (fun hHeld => ?_)
   clear hK K Ew
   refine nm 53 ?_
   refine pu 9 54 jC ?_
   refine on 11 (some 56) jD fun K hK => ?_
   refine BK Try.func60 (by kernel_rfl) rfl #[.pointer (some ⟨gr,0,none⟩),.int .i64 4] (by rfl) rfl rfl (by (try simp only [List.map_toArray,List.map_cons,List.map_nil]); first | done | rfl) ?_
   refine (CP gr _ _ _ _ HR.out (HA.out _ (Kd.BQ HC.out HW.out)) (by have:=hn1.out; (try simp only [AZ]); omega) (by have:=hn1.out; (try simp only [AZ]); omega) (by have:=hn1.out; (try simp only [AZ]); omega)).mono ?_
   rintro e w6 hpost
   unfold Hw at hpost
   obtain ⟨A6,rfl,hw6,IE⟩:=hpost
   refine ⟨_,rfl,?_⟩
   have hat:At gr _ w6:=hw6 ▸ At.set (At.refl _ _) _ _
   have CE:w6.heap[gr]? = some (.cells #[.slice A6 (AO (AO (AO (l1)))).length (c - 1 - 4 - 4 - 4)] 112 (0,0)):=hw6 ▸ AQ HR.out 0 _ rfl
   clear hw6
   have Ew:=(hat.cell (by omega)).trans hHeld
   have Aq:=hat.below HW.out (by omega)
   have Bd:=(hat.block w.heap.size (by omega)).trans HP.out
   have Bj:=(hat.block g (by omega)).trans HB.out
   have EW:=fun W hW => IE W (HA.out W hW)
   have DJ:=(hat.block g6 (by omega)).trans HX.out
   clear HR HW HP HB HA IE hat HX
   have HR:=Lib.hid CE
   have HW:=Lib.hid Aq
   have HP:=Lib.hid Bd
   have HB:=Lib.hid Bj
   have HA:=Lib.hid EW
   have HX:=Lib.hid DJ
   clear CE Aq Bd Bj EW DJ
   refine hK.out _ _ Ew (fun hHeld => ?_)
   clear hK K Ew
   refine nm 56 ?_
   refine pu 12 57 jE ?_
   refine pu 13 58 XG ?_
   have h9:=hcont (g6,_) _ ⟨HR.out,HA.out,HW.out,HP.out,HB.out,HX.out,hgx,hHeld⟩
   simp only [Ak,Act.put,sA,sZ,sS] at h9
   exact h9
 ·skip
  refine Dt (by rfl) (N:=6) rfl (cs:=#[.int .i64 0,.int .u32 0,.int .u32 0,.int .u32 0,.int .u32 0,.int .u32 0,.int .u32 0,.int .u32 0,.complex .f64 0 0,.slice none 0 0]) (t:=27) (by first | (go_simp; done) | (go_simp; rfl)) ?_
  intro g6 Q7 w6 hbx hb3
  have hgx:gr < g6:=by have:=AU HR.out; omega
  have Ew:=(hb3.cell (World.block_lt_of_cell? _ _ hHeld)).trans hHeld
  have CE:=(hb3.block gr (AU HR.out)).trans HR.out
  have Aq:=HW.out.trans (hb3.mono HW.out.size)
  have Bd:=(hb3.block w.heap.size (AU HP.out)).trans HP.out
  have Bj:=(hb3.block g (AU HB.out)).trans HB.out
  clear HR HW HP HB
  have HR:=Lib.hid CE
  have HW:=Lib.hid Aq
  have HP:=Lib.hid Bd
  have HB:=Lib.hid Bj
  have HX:=Lib.hid hbx
  clear CE Aq Bd Bj hbx hb3 Q7
  refine hK.out _ _ Ew (fun hHeld => ?_)
  clear hK K Ew
  refine nm 6 ?_
  refine on 5 (some 50) M12 fun K hK => ?_
  refine BK Try.func60 (by kernel_rfl) rfl #[.pointer (some ⟨gr,0,none⟩),.int .i64 4] (by rfl) rfl rfl (by (try simp only [List.map_toArray,List.map_cons,List.map_nil]); first | done | rfl) ?_
  refine (CP gr _ _ _ _ HR.out (HA.out _ (Kd.BQ HC.out HW.out)) (by have:=hn1.out; (try simp only [AZ]); omega) (by have:=hn1.out; (try simp only [AZ]); omega) (by have:=hn1.out; (try simp only [AZ]); omega)).mono ?_
  rintro e w6 hpost
  unfold Hw at hpost
  obtain ⟨A6,rfl,hw6,IE⟩:=hpost
  refine ⟨_,rfl,?_⟩
  have hat:At gr _ w6:=hw6 ▸ At.set (At.refl _ _) _ _
  have CE:w6.heap[gr]? = some (.cells #[.slice A6 (AO (l1)).length (c - 1 - 4)] 112 (0,0)):=hw6 ▸ AQ HR.out 0 _ rfl
  clear hw6
  have Ew:=(hat.cell (by omega)).trans hHeld
  have Aq:=hat.below HW.out (by omega)
  have Bd:=(hat.block w.heap.size (by omega)).trans HP.out
  have Bj:=(hat.block g (by omega)).trans HB.out
  have EW:=fun W hW => IE W (HA.out W hW)
  have DJ:=(hat.block g6 (by omega)).trans HX.out
  clear HR HW HP HB HA IE hat HX
  have HR:=Lib.hid CE
  have HW:=Lib.hid Aq
  have HP:=Lib.hid Bd
  have HB:=Lib.hid Bj
  have HA:=Lib.hid EW
  have HX:=Lib.hid DJ
  clear CE Aq Bd Bj EW DJ
  refine hK.out _ _ Ew (fun hHeld => ?_)
  clear hK K Ew
  refine nm 50 ?_
  refine pu 6 51 nZ ?_
  refine on 8 (some 53) ng fun K hK => ?_
  refine BK Try.func60 (by kernel_rfl) rfl #[.pointer (some ⟨gr,0,none⟩),.int .i64 4] (by rfl) rfl rfl (by (try simp only [List.map_toArray,List.map_cons,List.map_nil]); first | done | rfl) ?_
  refine (CP gr _ _ _ _ HR.out (HA.out _ (Kd.BQ HC.out HW.out)) (by have:=hn1.out; (try simp only [AZ]); omega) (by have:=hn1.out; (try simp only [AZ]); omega) (by have:=hn1.out; (try simp only [AZ]); omega)).mono ?_
  rintro e w6 hpost
  unfold Hw at hpost
  obtain ⟨A6,rfl,hw6,IE⟩:=hpost
  refine ⟨_,rfl,?_⟩
  have hat:At gr _ w6:=hw6 ▸ At.set (At.refl _ _) _ _
  have CE:w6.heap[gr]? = some (.cells #[.slice A6 (AO (AO (l1))).length (c - 1 - 4 - 4)] 112 (0,0)):=hw6 ▸ AQ HR.out 0 _ rfl
  clear hw6
  have Ew:=(hat.cell (by omega)).trans hHeld
  have Aq:=hat.below HW.out (by omega)
  have Bd:=(hat.block w.heap.size (by omega)).trans HP.out
  have Bj:=(hat.block g (by omega)).trans HB.out
  have EW:=fun W hW => IE W (HA.out W hW)
  have DJ:=(hat.block g6 (by omega)).trans HX.out
  clear HR HW HP HB HA IE hat HX
  have HR:=Lib.hid CE
  have HW:=Lib.hid Aq
  have HP:=Lib.hid Bd
  have HB:=Lib.hid Bj
  have HA:=Lib.hid EW
  have HX:=Lib.hid DJ
  clear CE Aq Bd Bj EW DJ
  refine hK.out _ _ Ew (fun hHeld => ?_)
  clear hK K Ew
  refine nm 53 ?_
  refine pu 9 54 jC ?_
  refine on 11 (some 56) jD fun K hK => ?_
  refine BK Try.func60 (by kernel_rfl) rfl #[.pointer (some ⟨gr,0,none⟩),.int .i64 4] (by rfl) rfl rfl (by (try simp only [List.map_toArray,List.map_cons,List.map_nil]); first | done | rfl) ?_
  refine (CP gr _ _ _ _ HR.out (HA.out _ (Kd.BQ HC.out HW.out)) (by have:=hn1.out; (try simp only [AZ]); omega) (by have:=hn1.out; (try simp only [AZ]); omega) (by have:=hn1.out; (try simp only [AZ]); omega)).mono ?_
  rintro e w6 hpost
  unfold Hw at hpost
  obtain ⟨A6,rfl,hw6,IE⟩:=hpost
  refine ⟨_,rfl,?_⟩
  have hat:At gr _ w6:=hw6 ▸ At.set (At.refl _ _) _ _
  have CE:w6.heap[gr]? = some (.cells #[.slice A6 (AO (AO (AO (l1)))).length (c - 1 - 4 - 4 - 4)] 112 (0,0)):=hw6 ▸ AQ HR.out 0 _ rfl
  clear hw6
  have Ew:=(hat.cell (by omega)).trans hHeld
  have Aq:=hat.below HW.out (by omega)
  have Bd:=(hat.block w.heap.size (by omega)).trans HP.out
  have Bj:=(hat.block g (by omega)).trans HB.out
  have EW:=fun W hW => IE W (HA.out W hW)
  have DJ:=(hat.block g6 (by omega)).trans HX.out
  clear HR HW HP HB HA IE hat HX
  have HR:=Lib.hid CE
  have HW:=Lib.hid Aq
  have HP:=Lib.hid Bd
  have HB:=Lib.hid Bj
  have HA:=Lib.hid EW
  have HX:=Lib.hid DJ
  clear CE Aq Bd Bj EW DJ
  refine hK.out _ _ Ew (fun hHeld => ?_)
  clear hK K Ew
  refine nm 56 ?_
  refine pu 12 57 jE ?_
  refine pu 13 58 XG ?_
  have h9:=hcont (g6,_) _ ⟨HR.out,HA.out,HW.out,HP.out,HB.out,HX.out,hgx,hHeld⟩
  simp only [Ak,Act.put,sA,sZ,sS] at h9
  exact h9):p:=h
theorem iD {p:Prop} (h:p:=by
 refine AQ (cs:=#[.int .i64 0,.int .u32 0,.int .u32 0,.int .u32 0,.int .u32 0,.int .u32 0,.int .u32 0,.int .u32 0,.complex .f64 0 0,.slice none 0 0]) ?_ 0 _ rfl
 exact hX):p:=h
end Go.Proofs.Ytnkkgofpifhoeaa
section
namespace Go.Proofs.Ytnkkgofpifhoeaa.iE
open Go.RowKit Go.Proofs.Ytnkkgofpifhoeaa.Base Go.Proofs.Ytnkkgofpifhoeaa.Pk Go.Proofs.YtnkkgofpifhoeaaW.PrintWords Go.Proofs.YtnkkgofpifhoeaaW.PrintLast Go.Proofs.Ytnkkgofpifhoeaa.Steps
theorem Xt (w:World):(Instr.index 108 table (.int .u8 1)).run Try.prog w = .ok (.agg #[.bool true,.bool false,.bool false,.bool false,.int .i64 14,.int .i64 14]) w:=by kernel_rfl
theorem Gn (w:World):(Instr.build 27 #[]).run Try.prog w = .ok (.agg #[.int .i64 0,.int .u32 0,.int .u32 0,.int .u32 0,.int .u32 0,.int .u32 0,.int .u32 0,.int .u32 0,.complex .f64 0 0,.slice none 0 0]) w:=by kernel_rfl
theorem Gp (w:World) (v:Value):(Instr.alloc 27 true v).run Try.prog w = .ok (.pointer (some ⟨w.heap.size,0,none⟩)) (w.alloc (.cells #[.int .i64 0,.int .u32 0,.int .u32 0,.int .u32 0,.int .u32 0,.int .u32 0,.int .u32 0,.int .u32 0,.complex .f64 0 0,.slice none 0 0] 27)):=by kernel_rfl
theorem Au {w:World} {a:Addr} {v:Value} (h:w.cell? a = some v) (o:Obj):(w.alloc o).cell? a = some v:=(World.cell?_alloc_lt _ _ _ (World.block_lt_of_cell? _ _ h)).trans h
theorem decode_short (ad:Addr) (n c:Nat) (l:List Int) (w:World) (hC:Kd.C (Kd.int .u8) w (some ad) l.length l) (hn:l.length = n) (hk:rd l 0 = 1) (h0:0 < n) (hl:n < 14) :
  Calls Try.prog 16 #[.slice (some ad) n c] w
   fun e w' => e = .returned (.tuple #[.agg #[.int .i64 0,.int .u32 0,.int .u32 0,.int .u32 0,.int .u32 0,.int .u32 0,.int .u32 0,.int .u32 0,.complex .f64 0 0,.slice none 0 0],.int .i64 103]) ∧ Below w.heap.size w w':=by
 have DZ:=Try.underlying27
 have hbz:=Gn
 have hal:=Gp
 have FH:=Try.underlying107
 have hix:=Xt
 have hne:((n:Int) == 0) = false:=beq_eq_false_iff_ne.2 (by omega)
 obtain ⟨_,e0,hx0⟩:=Kd.EI hC 0 (by omega) (by omega)
 cases e0
 rw [hk] at hx0
 have ha0:ad.add (0:Int).toNat = ad:=by simp [Addr.add]
 rw [ha0] at hx0
 have hx1:=fun o => Au hx0 o
 have HC:=Lib.hid hC
 have HN:=Lib.hid hn
 clear hC hk hn ha0
 go_enter Try.func16,Try.ntmps16
 go_wp2_with fail
 have HP:=Lib.hid (show (w.alloc (.cells #[.int .i64 0,.int .u32 0,.int .u32 0,.int .u32 0,.int .u32 0,.int .u32 0,.int .u32 0,.int .u32 0,.complex .f64 0 0,.slice none 0 0] 27)).drew.heap[w.heap.size]? = some (.cells #[.int .i64 0,.int .u32 0,.int .u32 0,.int .u32 0,.int .u32 0,.int .u32 0,.int .u32 0,.int .u32 0,.complex .f64 0 0,.slice none 0 0] 27 (0,0)) from heap_alloc_new w _)
 have HW:=Lib.hid (Aj ((Below.refl w.heap.size w).alloc (Nat.le_refl _) (.cells #[.int .i64 0,.int .u32 0,.int .u32 0,.int .u32 0,.int .u32 0,.int .u32 0,.int .u32 0,.int .u32 0,.complex .f64 0 0,.slice none 0 0] 27)))
 refine Aw (n:=7) (S:=fun w' => w'.cell? ad = some (.int .u8 1)) (ds:=[]) OD (by kernel_rfl) rfl rfl (hx1 _) (fun hHeld => ?_)
 generalize (w.alloc (.cells #[.int .i64 0,.int .u32 0,.int .u32 0,.int .u32 0,.int .u32 0,.int .u32 0,.int .u32 0,.int .u32 0,.complex .f64 0 0,.slice none 0 0] 27)).drew = w1 at HW HP hHeld ⊢
 refine pu 1 25 SK ?_
 refine pu 2 26 SL ?_
 refine tk 3 27 SN hHeld ?_ (hf:=by intro w' s0; go_simp; with_reducible rfl)
 refine D7 (σ:=Nat) 1 MR (fun g => [(24,table),(28,.agg #[.bool true,.bool false,.bool false,.bool false,.int .i64 14,.int .i64 14]),(4,.pointer (some ⟨g,0,none⟩))]) (fun g w' => w'.heap[g]? = some (.cells #[.bool false,.bool false,.bool false,.bool false,.int .i64 0,.int .i64 0] 107 (0,0)) ∧ Below w.heap.size w w' ∧ w.heap.size < g ∧ w'.heap[w.heap.size]? = some (.cells #[.int .i64 0,.int .u32 0,.int .u32 0,.int .u32 0,.int .u32 0,.int .u32 0,.int .u32 0,.int .u32 0,.complex .f64 0 0,.slice none 0 0] 27 (0,0)) ∧ w'.cell? ad = some (.int .u8 1)) ?_ ?_
 rotate_left
 ·intro hcont
  exact Z1
 intro g w2 ⟨hbx,hbel,hgt,hpz,hHeld⟩
 clear HW HP
 refine Dy (a':=?_) ?_ ?_
 rotate_left
 ·show Ak _ _ = _
  simp only [Ak,Act.put,sA,sZ,sS]
  rfl
 have hc0:w2.cell? ⟨g,0,none⟩ = some (.bool false):=(AA hbx 0).trans rfl
 have hf0:=AB hbx 0
 have hc1:w2.cell? ⟨g,1,none⟩ = some (.bool false):=(AA hbx 1).trans rfl
 have hf1:=AB hbx 1
 have hc2:w2.cell? ⟨g,2,none⟩ = some (.bool false):=(AA hbx 2).trans rfl
 have hf2:=AB hbx 2
 have hc3:w2.cell? ⟨g,3,none⟩ = some (.bool false):=(AA hbx 3).trans rfl
 have hf3:=AB hbx 3
 have hc4:w2.cell? ⟨g,4,none⟩ = some (.int .i64 0):=(AA hbx 4).trans rfl
 have hf4:=AB hbx 4
 have hc5:w2.cell? ⟨g,5,none⟩ = some (.int .i64 0):=(AA hbx 5).trans rfl
 have hf5:=AB hbx 5
 refine on 6 none OE fun K hK => ?_
 refine BO (fun w4 => w4.heap[g]? = some (.cells #[.bool true,.bool false,.bool false,.bool false,.int .i64 14,.int .i64 14] 107 (0,0)) ∧ At g w2 w4) (by rfl) rfl ⟨_,by go_simp; rfl,?_,?_⟩ (fun w4 hF => ?_)
 ·skip
  exact iC
 ·repeat (first | (with_reducible exact At.refl _ _) | refine At.set ?_ _ _)
 obtain ⟨Du,hat⟩:=hF
 have hx4:w4.cell? ad = some (.int .u8 1):=(hat.cell (by have:=World.block_lt_of_cell? _ _ hx0; omega)).trans hHeld
 have EC:=Lib.hid (hat.below hbel (by omega))
 have Fe:=Lib.hid ((hat.block w.heap.size (by omega)).trans hpz)
 have CS:=Lib.hid Du
 clear hbx hbel hpz hat hHeld Du hc0 hf0 hc1 hf1 hc2 hf2 hc3 hf3 hc4 hf4 hc5 hf5
 refine hK.out _ _ hx4 (fun hHeld => ?_)
 clear hK K
 refine BN (by kernel_rfl) ?_
 have hc4:w4.cell? ⟨g,4,none⟩ = some (.int .i64 14):=(AA CS.out 4).trans rfl
 have hc5:w4.cell? ⟨g,5,none⟩ = some (.int .i64 14):=(AA CS.out 5).trans rfl
 exact Z8
theorem Dv (ad:Addr) (n c:Nat) (l:List Int) (w:World) (hC:Kd.C (Kd.int .u8) w (some ad) l.length l) (hn:l.length = n) (hk:rd l 0 = 1) (h0:0 < n) (hl:14 < n) :
  Calls Try.prog 16 #[.slice (some ad) n c] w
   fun e w' => e = .returned (.tuple #[.agg #[.int .i64 0,.int .u32 0,.int .u32 0,.int .u32 0,.int .u32 0,.int .u32 0,.int .u32 0,.int .u32 0,.complex .f64 0 0,.slice none 0 0],.int .i64 102]) ∧ Below w.heap.size w w':=by
 have DZ:=Try.underlying27
 have hbz:=Gn
 have hal:=Gp
 have FH:=Try.underlying107
 have hix:=Xt
 have hne:((n:Int) == 0) = false:=beq_eq_false_iff_ne.2 (by omega)
 obtain ⟨_,e0,hx0⟩:=Kd.EI hC 0 (by omega) (by omega)
 cases e0
 rw [hk] at hx0
 have ha0:ad.add (0:Int).toNat = ad:=by simp [Addr.add]
 rw [ha0] at hx0
 have hx1:=fun o => Au hx0 o
 have HC:=Lib.hid hC
 have HN:=Lib.hid hn
 clear hC hk hn ha0
 go_enter Try.func16,Try.ntmps16
 go_wp2_with fail
 have HP:=Lib.hid (show (w.alloc (.cells #[.int .i64 0,.int .u32 0,.int .u32 0,.int .u32 0,.int .u32 0,.int .u32 0,.int .u32 0,.int .u32 0,.complex .f64 0 0,.slice none 0 0] 27)).drew.heap[w.heap.size]? = some (.cells #[.int .i64 0,.int .u32 0,.int .u32 0,.int .u32 0,.int .u32 0,.int .u32 0,.int .u32 0,.int .u32 0,.complex .f64 0 0,.slice none 0 0] 27 (0,0)) from heap_alloc_new w _)
 have HW:=Lib.hid (Aj ((Below.refl w.heap.size w).alloc (Nat.le_refl _) (.cells #[.int .i64 0,.int .u32 0,.int .u32 0,.int .u32 0,.int .u32 0,.int .u32 0,.int .u32 0,.int .u32 0,.complex .f64 0 0,.slice none 0 0] 27)))
 refine Aw (n:=7) (S:=fun w' => w'.cell? ad = some (.int .u8 1)) (ds:=[]) OD (by kernel_rfl) rfl rfl (hx1 _) (fun hHeld => ?_)
 generalize (w.alloc (.cells #[.int .i64 0,.int .u32 0,.int .u32 0,.int .u32 0,.int .u32 0,.int .u32 0,.int .u32 0,.int .u32 0,.complex .f64 0 0,.slice none 0 0] 27)).drew = w1 at HW HP hHeld ⊢
 refine pu 1 25 SK ?_
 refine pu 2 26 SL ?_
 refine tk 3 27 SN hHeld ?_ (hf:=by intro w' s0; go_simp; with_reducible rfl)
 refine D7 (σ:=Nat) 1 MR (fun g => [(24,table),(28,.agg #[.bool true,.bool false,.bool false,.bool false,.int .i64 14,.int .i64 14]),(4,.pointer (some ⟨g,0,none⟩))]) (fun g w' => w'.heap[g]? = some (.cells #[.bool false,.bool false,.bool false,.bool false,.int .i64 0,.int .i64 0] 107 (0,0)) ∧ Below w.heap.size w w' ∧ w.heap.size < g ∧ w'.heap[w.heap.size]? = some (.cells #[.int .i64 0,.int .u32 0,.int .u32 0,.int .u32 0,.int .u32 0,.int .u32 0,.int .u32 0,.int .u32 0,.complex .f64 0 0,.slice none 0 0] 27 (0,0)) ∧ w'.cell? ad = some (.int .u8 1)) ?_ ?_
 rotate_left
 ·intro hcont
  exact Z1
 intro g w2 ⟨hbx,hbel,hgt,hpz,hHeld⟩
 clear HW HP
 refine Dy (a':=?_) ?_ ?_
 rotate_left
 ·show Ak _ _ = _
  simp only [Ak,Act.put,sA,sZ,sS]
  rfl
 have hc0:w2.cell? ⟨g,0,none⟩ = some (.bool false):=(AA hbx 0).trans rfl
 have hf0:=AB hbx 0
 have hc1:w2.cell? ⟨g,1,none⟩ = some (.bool false):=(AA hbx 1).trans rfl
 have hf1:=AB hbx 1
 have hc2:w2.cell? ⟨g,2,none⟩ = some (.bool false):=(AA hbx 2).trans rfl
 have hf2:=AB hbx 2
 have hc3:w2.cell? ⟨g,3,none⟩ = some (.bool false):=(AA hbx 3).trans rfl
 have hf3:=AB hbx 3
 have hc4:w2.cell? ⟨g,4,none⟩ = some (.int .i64 0):=(AA hbx 4).trans rfl
 have hf4:=AB hbx 4
 have hc5:w2.cell? ⟨g,5,none⟩ = some (.int .i64 0):=(AA hbx 5).trans rfl
 have hf5:=AB hbx 5
 refine on 6 none OE fun K hK => ?_
 refine BO (fun w4 => w4.heap[g]? = some (.cells #[.bool true,.bool false,.bool false,.bool false,.int .i64 14,.int .i64 14] 107 (0,0)) ∧ At g w2 w4) (by rfl) rfl ⟨_,by go_simp; rfl,?_,?_⟩ (fun w4 hF => ?_)
 ·skip
  exact iC
 ·repeat (first | (with_reducible exact At.refl _ _) | refine At.set ?_ _ _)
 obtain ⟨Du,hat⟩:=hF
 have hx4:w4.cell? ad = some (.int .u8 1):=(hat.cell (by have:=World.block_lt_of_cell? _ _ hx0; omega)).trans hHeld
 have EC:=Lib.hid (hat.below hbel (by omega))
 have Fe:=Lib.hid ((hat.block w.heap.size (by omega)).trans hpz)
 have CS:=Lib.hid Du
 clear hbx hbel hpz hat hHeld Du hc0 hf0 hc1 hf1 hc2 hf2 hc3 hf3 hc4 hf4 hc5 hf5
 refine hK.out _ _ hx4 (fun hHeld => ?_)
 clear hK K
 refine BN (by kernel_rfl) ?_
 have hc4:w4.cell? ⟨g,4,none⟩ = some (.int .i64 14):=(AA CS.out 4).trans rfl
 have hc5:w4.cell? ⟨g,5,none⟩ = some (.int .i64 14):=(AA CS.out 5).trans rfl
 exact Z9
theorem Ce (ad:Addr) (n c:Nat) (l l1:List Int) (w:World) (hd:l.drop 1 = l1) (hC:Kd.C (Kd.int .u8) w (some ad) l.length l) (hn:l.length = n) (hcap:n ≤ c) (hk:rd l 0 = 1) (h0:0 < n) (hl:14 ≤ n) (hm:n ≤ 14) :
  Calls Try.prog 16 #[.slice (some ad) n c] w
   (fun e w' => e = .returned (.tuple #[.agg (Df (Ah 1 ((IntKind.u32.wrap (AP (l1)))) ((IntKind.u32.wrap (AP (AO (l1))))) ((IntKind.u32.wrap (AP (AO (AO (l1)))))) ((IntKind.u32.wrap (num1 (AO (AO (AO (l1))))))) (0) (0) (0) 0 0 0) #[.int .i64 1,.int .u32 (IntKind.u32.wrap (AP (l1))),.int .u32 (IntKind.u32.wrap (AP (AO (l1)))),.int .u32 (IntKind.u32.wrap (AP (AO (AO (l1))))),.int .u32 (IntKind.u32.wrap (num1 (AO (AO (AO (l1)))))),.int .u32 0,.int .u32 0,.int .u32 0,.complex .f64 0 0,.slice none 0 0]),.int .i64 (Ah 1 ((IntKind.u32.wrap (AP (l1)))) ((IntKind.u32.wrap (AP (AO (l1))))) ((IntKind.u32.wrap (AP (AO (AO (l1)))))) ((IntKind.u32.wrap (num1 (AO (AO (AO (l1))))))) (0) (0) (0) 0 0 0)]) ∧ Below w.heap.size w w'):=by
 have HD:=Lib.hid hd
 clear hd
 have DZ:=Try.underlying27
 have hbz:=Gn
 have hal:=Gp
 have FH:=Try.underlying107
 have hix:=Xt
 have hne:((n:Int) == 0) = false:=beq_eq_false_iff_ne.2 (by omega)
 obtain ⟨_,e0,hx0⟩:=Kd.EI hC 0 (by omega) (by omega)
 cases e0
 rw [hk] at hx0
 have ha0:ad.add (0:Int).toNat = ad:=by simp [Addr.add]
 rw [ha0] at hx0
 have hx1:=fun o => Au hx0 o
 have HC:=Lib.hid hC
 have HN:=Lib.hid hn
 clear hC hk hn ha0
 go_enter Try.func16,Try.ntmps16
 go_wp2_with fail
 have HP:=Lib.hid (show (w.alloc (.cells #[.int .i64 0,.int .u32 0,.int .u32 0,.int .u32 0,.int .u32 0,.int .u32 0,.int .u32 0,.int .u32 0,.complex .f64 0 0,.slice none 0 0] 27)).drew.heap[w.heap.size]? = some (.cells #[.int .i64 0,.int .u32 0,.int .u32 0,.int .u32 0,.int .u32 0,.int .u32 0,.int .u32 0,.int .u32 0,.complex .f64 0 0,.slice none 0 0] 27 (0,0)) from heap_alloc_new w _)
 have HW:=Lib.hid (Aj ((Below.refl w.heap.size w).alloc (Nat.le_refl _) (.cells #[.int .i64 0,.int .u32 0,.int .u32 0,.int .u32 0,.int .u32 0,.int .u32 0,.int .u32 0,.int .u32 0,.complex .f64 0 0,.slice none 0 0] 27)))
 refine Aw (n:=7) (S:=fun w' => w'.cell? ad = some (.int .u8 1)) (ds:=[]) OD (by kernel_rfl) rfl rfl (hx1 _) (fun hHeld => ?_)
 generalize (w.alloc (.cells #[.int .i64 0,.int .u32 0,.int .u32 0,.int .u32 0,.int .u32 0,.int .u32 0,.int .u32 0,.int .u32 0,.complex .f64 0 0,.slice none 0 0] 27)).drew = w1 at HW HP hHeld ⊢
 refine pu 1 25 SK ?_
 refine pu 2 26 SL ?_
 refine tk 3 27 SN hHeld ?_ (hf:=by intro w' s0; go_simp; with_reducible rfl)
 refine D7 (σ:=Nat) 1 MR (fun g => [(24,table),(28,.agg #[.bool true,.bool false,.bool false,.bool false,.int .i64 14,.int .i64 14]),(4,.pointer (some ⟨g,0,none⟩))]) (fun g w' => w'.heap[g]? = some (.cells #[.bool false,.bool false,.bool false,.bool false,.int .i64 0,.int .i64 0] 107 (0,0)) ∧ Below w.heap.size w w' ∧ w.heap.size < g ∧ w'.heap[w.heap.size]? = some (.cells #[.int .i64 0,.int .u32 0,.int .u32 0,.int .u32 0,.int .u32 0,.int .u32 0,.int .u32 0,.int .u32 0,.complex .f64 0 0,.slice none 0 0] 27 (0,0)) ∧ w'.cell? ad = some (.int .u8 1)) ?_ ?_
 rotate_left
 ·intro hcont
  exact Z1
 intro g w2 ⟨hbx,hbel,hgt,hpz,hHeld⟩
 clear HW HP
 refine Dy (a':=?_) ?_ ?_
 rotate_left
 ·show Ak _ _ = _
  simp only [Ak,Act.put,sA,sZ,sS]
  rfl
 have hc0:w2.cell? ⟨g,0,none⟩ = some (.bool false):=(AA hbx 0).trans rfl
 have hf0:=AB hbx 0
 have hc1:w2.cell? ⟨g,1,none⟩ = some (.bool false):=(AA hbx 1).trans rfl
 have hf1:=AB hbx 1
 have hc2:w2.cell? ⟨g,2,none⟩ = some (.bool false):=(AA hbx 2).trans rfl
 have hf2:=AB hbx 2
 have hc3:w2.cell? ⟨g,3,none⟩ = some (.bool false):=(AA hbx 3).trans rfl
 have hf3:=AB hbx 3
 have hc4:w2.cell? ⟨g,4,none⟩ = some (.int .i64 0):=(AA hbx 4).trans rfl
 have hf4:=AB hbx 4
 have hc5:w2.cell? ⟨g,5,none⟩ = some (.int .i64 0):=(AA hbx 5).trans rfl
 have hf5:=AB hbx 5
 refine on 6 none OE fun K hK => ?_
 refine BO (fun w4 => w4.heap[g]? = some (.cells #[.bool true,.bool false,.bool false,.bool false,.int .i64 14,.int .i64 14] 107 (0,0)) ∧ At g w2 w4) (by rfl) rfl ⟨_,by go_simp; rfl,?_,?_⟩ (fun w4 hF => ?_)
 ·skip
  exact iC
 ·repeat (first | (with_reducible exact At.refl _ _) | refine At.set ?_ _ _)
 obtain ⟨Du,hat⟩:=hF
 have hx4:w4.cell? ad = some (.int .u8 1):=(hat.cell (by have:=World.block_lt_of_cell? _ _ hx0; omega)).trans hHeld
 have EC:=Lib.hid (hat.below hbel (by omega))
 have Fe:=Lib.hid ((hat.block w.heap.size (by omega)).trans hpz)
 have CS:=Lib.hid Du
 clear hbx hbel hpz hat hHeld Du hc0 hf0 hc1 hf1 hc2 hf2 hc3 hf3 hc4 hf4 hc5 hf5
 refine hK.out _ _ hx4 (fun hHeld => ?_)
 clear hK K
 refine BN (by kernel_rfl) ?_
 have hc4:w4.cell? ⟨g,4,none⟩ = some (.int .i64 14):=(AA CS.out 4).trans rfl
 have hc5:w4.cell? ⟨g,5,none⟩ = some (.int .i64 14):=(AA CS.out 5).trans rfl
 have hn:=HN.out
 subst hn
 obtain ⟨i0,hi0,_,hsz,_⟩:=info_parts info5
 obtain ⟨A1,hcut,hA1,hcap1⟩:=D8 (P:=Try.prog) (Value.int .u8) 0 22 5 .i64 Try.underlying22 hi0 hsz (some ad) c l (1:Int) (by omega) (by omega) hcap
 have e1:(1:Int).toNat = 1:=rfl
 rw [e1] at hcut hA1 hcap1
 have HA1:RowKit.Hid (∀ W,Kd.C (Kd.int .u8) W (some ad) l.length l → Kd.C (Kd.int .u8) W A1 (l.drop 1).length (l.drop 1)):=Lib.hid (fun W hW => Kd.FC (h1:=fun _ => rfl) (hA1 W (Kd.Dq hW)))
 have hn1:RowKit.Hid ((l.drop 1).length = l.length - 1):=Lib.hid List.length_drop
 have hd:=HD.out
 rw [hd] at hcut HA1 hcap1 hn1
 clear hd
 clear hA1 hi0 hsz e1
 go_wp2_with fail
 have Xu:ad.block < w.heap.size:=World.block_lt_of_cell? _ _ hx0
 have hgr:g < w4.heap.size:=AU CS.out
 have hX0:Below w4.heap.size w4 (w4.alloc (.cells #[.slice A1 (l1).length (c - 1)] 112)).drew:=Aj ((Below.refl w4.heap.size w4).alloc (Nat.le_refl _) (.cells #[.slice A1 (l1).length (c - 1)] 112))
 have HR:=Lib.hid (show (w4.alloc (.cells #[.slice A1 (l1).length (c - 1)] 112)).drew.heap[w4.heap.size]? = some (.cells #[.slice A1 (l1).length (c - 1)] 112 (0,0)) from heap_alloc_new w4 _)
 have HW:=Lib.hid (EC.out.trans (hX0.mono EC.out.size))
 have HP:=Lib.hid ((hX0.block w.heap.size (AU Fe.out)).trans Fe.out)
 have HB:=Lib.hid ((hX0.block g (AU CS.out)).trans CS.out)
 have hH5:=(hX0.cell (World.block_lt_of_cell? _ _ hx4)).trans hx4
 have HA:RowKit.Hid (∀ W,Kd.C (Kd.int .u8) W (some ad) l.length l → Kd.C (Kd.int .u8) W A1 (l1).length (l1)):=HA1
 have HCAP:=hcap
 refine Aw (n:=16) (S:=fun w' => w'.cell? ad = some (.int .u8 1)) (ds:=[]) eU (by kernel_rfl) rfl rfl (hH5) (fun hHeld => ?_)
 generalize (w4.alloc (.cells #[.slice A1 (l1).length (c - 1)] 112)).drew = w5 at HR HW HP HB hHeld ⊢
 clear hX0 hH5 HA1
 generalize w4.heap.size = gr at hgr HR ⊢
 refine pu 0 45 eY ?_
 refine pu 1 46 fA ?_
 refine tk 2 47 fC hHeld ?_ (hf:=by intro w' s0; go_simp; with_reducible rfl)
 refine pu 3 48 fE ?_
 refine pu 4 49 fG ?_
 refine pu 7 52 fJ ?_
 refine pu 10 55 fM ?_
 refine D7 (σ:=Nat × Option Addr) 1 XG (fun s => [(50,.int .u64 (AP (l1))),(51,.int .u32 (IntKind.u32.wrap (AP (l1)))),(53,.int .u64 (AP (AO (l1)))),(54,.int .u32 (IntKind.u32.wrap (AP (AO (l1))))),(56,.int .u64 (AP (AO (AO (l1))))),(57,.int .u32 (IntKind.u32.wrap (AP (AO (AO (l1)))))),(58,.agg #[.int .i64 1,.int .u32 (IntKind.u32.wrap (AP (l1))),.int .u32 (IntKind.u32.wrap (AP (AO (l1)))),.int .u32 (IntKind.u32.wrap (AP (AO (AO (l1))))),.int .u32 0,.int .u32 0,.int .u32 0,.int .u32 0,.complex .f64 0 0,.slice none 0 0]),(6,.pointer (some ⟨s.1,0,none⟩))]) (fun s w' => w'.heap[gr]? = some (.cells #[.slice s.2 (AO (AO (AO (l1)))).length (c - 1 - 4 - 4 - 4)] 112 (0,0)) ∧ (∀ W,Kd.C (Kd.int .u8) W (some ad) l.length l → Kd.C (Kd.int .u8) W s.2 (AO (AO (AO (l1)))).length (AO (AO (AO (l1))))) ∧ Below w.heap.size w w' ∧ w'.heap[w.heap.size]? = some (.cells #[.int .i64 0,.int .u32 0,.int .u32 0,.int .u32 0,.int .u32 0,.int .u32 0,.int .u32 0,.int .u32 0,.complex .f64 0 0,.slice none 0 0] 27 (0,0)) ∧ w'.heap[g]? = some (.cells #[.bool true,.bool false,.bool false,.bool false,.int .i64 14,.int .i64 14] 107 (0,0)) ∧ w'.heap[s.1]? = some (.cells #[.int .i64 0,.int .u32 0,.int .u32 0,.int .u32 0,.int .u32 0,.int .u32 0,.int .u32 0,.int .u32 0,.complex .f64 0 0,.slice none 0 0] 27 (0,0)) ∧ gr < s.1 ∧ w'.cell? ad = some (.int .u8 1)) ?_ ?_
 rotate_left
 ·intro hcont
  exact Z0
 intro s w6 ⟨hR,hA,hW,hP,hB,hX,hgx,hHeld⟩
 obtain ⟨g6,A4⟩:=s
 clear HR HW HP HB HA
 refine Dy (a':=?_) ?_ ?_
 rotate_left
 ·show Ak _ _ = _
  simp only [Ak,Act.put,sA,sZ,sS]
  rfl
 have hc0:w6.cell? ⟨g6,0,none⟩ = some (.int .i64 0):=(AA hX 0).trans rfl
 have hf0:=AB hX 0
 have hc1:w6.cell? ⟨g6,1,none⟩ = some (.int .u32 0):=(AA hX 1).trans rfl
 have hf1:=AB hX 1
 have hc2:w6.cell? ⟨g6,2,none⟩ = some (.int .u32 0):=(AA hX 2).trans rfl
 have hf2:=AB hX 2
 have hc3:w6.cell? ⟨g6,3,none⟩ = some (.int .u32 0):=(AA hX 3).trans rfl
 have hf3:=AB hX 3
 have hc4:w6.cell? ⟨g6,4,none⟩ = some (.int .u32 0):=(AA hX 4).trans rfl
 have hf4:=AB hX 4
 have hc5:w6.cell? ⟨g6,5,none⟩ = some (.int .u32 0):=(AA hX 5).trans rfl
 have hf5:=AB hX 5
 have hc6:w6.cell? ⟨g6,6,none⟩ = some (.int .u32 0):=(AA hX 6).trans rfl
 have Vt:=AB hX 6
 have Ih:w6.cell? ⟨g6,7,none⟩ = some (.int .u32 0):=(AA hX 7).trans rfl
 have VR:=AB hX 7
 have hc8:w6.cell? ⟨g6,8,none⟩ = some (.complex .f64 0 0):=(AA hX 8).trans rfl
 have Vu:=AB hX 8
 have Hu:w6.cell? ⟨g6,9,none⟩ = some (.slice none 0 0):=(AA hX 9).trans rfl
 have Vx:=AB hX 9
 refine on 15 none fQ fun K hK => ?_
 refine BO (fun w7 => w7.heap[g6]? = some (.cells #[.int .i64 1,.int .u32 (IntKind.u32.wrap (AP (l1))),.int .u32 (IntKind.u32.wrap (AP (AO (l1)))),.int .u32 (IntKind.u32.wrap (AP (AO (AO (l1))))),.int .u32 0,.int .u32 0,.int .u32 0,.int .u32 0,.complex .f64 0 0,.slice none 0 0] 27 (0,0)) ∧ At g6 w6 w7) (by rfl) rfl ⟨_,by go_simp; rfl,?_,?_⟩ (fun w7 hF => ?_)
 ·skip
  refine AQ (cs:=#[.int .i64 1,.int .u32 (IntKind.u32.wrap (AP (l1))),.int .u32 (IntKind.u32.wrap (AP (AO (l1)))),.int .u32 (IntKind.u32.wrap (AP (AO (AO (l1))))),.int .u32 0,.int .u32 0,.int .u32 0,.int .u32 0,.complex .f64 0 0,.slice none 0 0]) ?_ 9 _ rfl
  refine AQ (cs:=#[.int .i64 1,.int .u32 (IntKind.u32.wrap (AP (l1))),.int .u32 (IntKind.u32.wrap (AP (AO (l1)))),.int .u32 (IntKind.u32.wrap (AP (AO (AO (l1))))),.int .u32 0,.int .u32 0,.int .u32 0,.int .u32 0,.complex .f64 0 0,.slice none 0 0]) ?_ 8 _ rfl
  refine AQ (cs:=#[.int .i64 1,.int .u32 (IntKind.u32.wrap (AP (l1))),.int .u32 (IntKind.u32.wrap (AP (AO (l1)))),.int .u32 (IntKind.u32.wrap (AP (AO (AO (l1))))),.int .u32 0,.int .u32 0,.int .u32 0,.int .u32 0,.complex .f64 0 0,.slice none 0 0]) ?_ 7 _ rfl
  refine AQ (cs:=#[.int .i64 1,.int .u32 (IntKind.u32.wrap (AP (l1))),.int .u32 (IntKind.u32.wrap (AP (AO (l1)))),.int .u32 (IntKind.u32.wrap (AP (AO (AO (l1))))),.int .u32 0,.int .u32 0,.int .u32 0,.int .u32 0,.complex .f64 0 0,.slice none 0 0]) ?_ 6 _ rfl
  refine AQ (cs:=#[.int .i64 1,.int .u32 (IntKind.u32.wrap (AP (l1))),.int .u32 (IntKind.u32.wrap (AP (AO (l1)))),.int .u32 (IntKind.u32.wrap (AP (AO (AO (l1))))),.int .u32 0,.int .u32 0,.int .u32 0,.int .u32 0,.complex .f64 0 0,.slice none 0 0]) ?_ 5 _ rfl
  refine AQ (cs:=#[.int .i64 1,.int .u32 (IntKind.u32.wrap (AP (l1))),.int .u32 (IntKind.u32.wrap (AP (AO (l1)))),.int .u32 (IntKind.u32.wrap (AP (AO (AO (l1))))),.int .u32 0,.int .u32 0,.int .u32 0,.int .u32 0,.complex .f64 0 0,.slice none 0 0]) ?_ 4 _ rfl
  refine AQ (cs:=#[.int .i64 1,.int .u32 (IntKind.u32.wrap (AP (l1))),.int .u32 (IntKind.u32.wrap (AP (AO (l1)))),.int .u32 0,.int .u32 0,.int .u32 0,.int .u32 0,.int .u32 0,.complex .f64 0 0,.slice none 0 0]) ?_ 3 _ rfl
  refine AQ (cs:=#[.int .i64 1,.int .u32 (IntKind.u32.wrap (AP (l1))),.int .u32 0,.int .u32 0,.int .u32 0,.int .u32 0,.int .u32 0,.int .u32 0,.complex .f64 0 0,.slice none 0 0]) ?_ 2 _ rfl
  refine AQ (cs:=#[.int .i64 1,.int .u32 0,.int .u32 0,.int .u32 0,.int .u32 0,.int .u32 0,.int .u32 0,.int .u32 0,.complex .f64 0 0,.slice none 0 0]) ?_ 1 _ rfl
  exact iD
 ·repeat (first | (with_reducible exact At.refl _ _) | refine At.set ?_ _ _)
 obtain ⟨Td,hat⟩:=hF
 have hx7:w7.cell? ad = some (.int .u8 1):=(hat.cell (by omega)).trans hHeld
 have HW:=Lib.hid (hat.below hW (by omega))
 have HP:=Lib.hid ((hat.block w.heap.size (by omega)).trans hP)
 have HB:=Lib.hid ((hat.block g (by omega)).trans hB)
 have HR:=Lib.hid ((hat.block gr (by omega)).trans hR)
 have HX:=Lib.hid Td
 have HA:=Lib.hid hA
 clear hR hA hW hP hB hX hat hHeld Td hc0 hf0 hc1 hf1 hc2 hf2 hc3 hf3 hc4 hf4 hc5 hf5 hc6 Vt Ih VR hc8 Vu Hu Vx
 refine hK.out _ _ hx7 (fun hHeld => ?_)
 clear hK K
 refine BN (by kernel_rfl) ?_
 have hc0:w7.cell? ⟨g6,0,none⟩ = some (.int .i64 1):=(AA HX.out 0).trans rfl
 go_wp2_with fail
 go_at_call 60
 refine (TQ gr _ _ _ _ HR.out (HA.out _ (Kd.BQ HC.out HW.out)) (by have:=hn1.out; (try simp only [BB,AZ,BC]); omega) (by have:=hn1.out; (try simp only [BB,AZ,BC]); omega) (by have:=hn1.out; (try simp only [BB,AZ,BC]); omega)).mono ?_
 rintro e w8 hpost
 unfold Zf at hpost
 obtain ⟨A9,rfl,hw,Ij⟩:=hpost
 have hat:At gr _ w8:=hw ▸ At.set (At.refl _ _) _ _
 have CE:w8.heap[gr]? = some (.cells #[.slice A9 (Lj (AO (AO (AO (l1))))).length ((c - 1 - 4 - 4 - 4) - 1)] 112 (0,0)):=hw ▸ AQ HR.out 0 _ rfl
 clear hw
 have Aq:=hat.below HW.out (by omega)
 have Bd:=(hat.block w.heap.size (by omega)).trans HP.out
 have Bj:=(hat.block g (by omega)).trans HB.out
 have DJ:=(hat.block g6 (by omega)).trans HX.out
 have EW:=fun W hW => Ij W (HA.out W hW)
 clear HR HW HP HB HX HA Ij hat
 have HR:=Lib.hid CE
 have HW:=Lib.hid Aq
 have HP:=Lib.hid Bd
 have HB:=Lib.hid Bj
 have HX:=Lib.hid DJ
 have HA:=Lib.hid EW
 clear CE Aq Bd Bj DJ EW
 go_wp2_with (first | ((with_reducible refine gate_ (.store 27 (.tmp 2) (.tmp 111)) rfl ?_); (refine Ae rfl rfl 27 (.tmp 2) (.tmp 111) rfl w.heap.size _ rfl rfl 27 _ HP.out (by kernel_rfl) rfl (by kernel_rfl) ?_); (intro w5 hb5 CQ); (have Hy:=Lib.hid hb5); (have Ey:=Lib.hid CQ); (clear hb5 CQ)) | ((with_reducible refine gate_ (.store 27 (.tmp 2) (.tmp 113)) rfl ?_); (refine Ae rfl rfl 27 (.tmp 2) (.tmp 113) rfl w.heap.size _ rfl rfl 27 _ HP.out (by kernel_rfl) rfl (by kernel_rfl) ?_); (intro w5 hb5 CQ); (have Hy:=Lib.hid hb5); (have Ey:=Lib.hid CQ); (clear hb5 CQ)) | ((with_reducible refine gate_ (.store 24 (.tmp 66) (.tmp 65)) rfl ?_); (have hc4:w8.cell? ⟨g6,4,none⟩ = some (.int .u32 0):=(AA HX.out 4).trans rfl); (have hf4:=AB HX.out 4); (refine AY (fun wz => wz.heap[g6]? = some (.cells #[.int .i64 1,.int .u32 (IntKind.u32.wrap (AP (l1))),.int .u32 (IntKind.u32.wrap (AP (AO (l1)))),.int .u32 (IntKind.u32.wrap (AP (AO (AO (l1))))),.int .u32 (IntKind.u32.wrap (num1 (AO (AO (AO (l1)))))),.int .u32 0,.int .u32 0,.int .u32 0,.complex .f64 0 0,.slice none 0 0] 27 (0,0)) ∧ At g6 w8 wz) rfl rfl ⟨_,(by first | (go_simp; done) | (go_simp; rfl)),AQ HX.out 4 _ rfl,At.set (At.refl _ _) _ _⟩ (fun w9 hF => ?_)); (obtain ⟨CG,hat⟩:=hF); (have Aq:=hat.below HW.out (by omega)); (have Bd:=(hat.block w.heap.size (by omega)).trans HP.out); (have Bj:=(hat.block g (by omega)).trans HB.out); (have CE:=(hat.block gr (by omega)).trans HR.out); (clear HR HW HP HB HX hc4 hf4 hat); (have HX:=Lib.hid CG); (clear CG); (have HR:=Lib.hid CE); (have HW:=Lib.hid Aq); (have HP:=Lib.hid Bd); (have HB:=Lib.hid Bj); (clear CE Aq Bd Bj); (have hr0:w9.cell? ⟨g,0,none⟩ = some (.bool true):=(AA HB.out 0).trans rfl); (have hr1:w9.cell? ⟨g,1,none⟩ = some (.bool false):=(AA HB.out 1).trans rfl); (have hr2:w9.cell? ⟨g,2,none⟩ = some (.bool false):=(AA HB.out 2).trans rfl); (have hr3:w9.cell? ⟨g,3,none⟩ = some (.bool false):=(AA HB.out 3).trans rfl); (have hc0:w9.cell? ⟨g6,0,none⟩ = some (.int .i64 1):=(AA HX.out 0).trans rfl); (have hc1:w9.cell? ⟨g6,1,none⟩ = some (.int .u32 (IntKind.u32.wrap (AP (l1)))):=(AA HX.out 1).trans rfl); (have hc2:w9.cell? ⟨g6,2,none⟩ = some (.int .u32 (IntKind.u32.wrap (AP (AO (l1))))):=(AA HX.out 2).trans rfl); (have hc3:w9.cell? ⟨g6,3,none⟩ = some (.int .u32 (IntKind.u32.wrap (AP (AO (AO (l1)))))):=(AA HX.out 3).trans rfl); (have hc4:w9.cell? ⟨g6,4,none⟩ = some (.int .u32 (IntKind.u32.wrap (num1 (AO (AO (AO (l1))))))):=(AA HX.out 4).trans rfl); (have hc5:w9.cell? ⟨g6,5,none⟩ = some (.int .u32 0):=(AA HX.out 5).trans rfl); (have hc6:w9.cell? ⟨g6,6,none⟩ = some (.int .u32 0):=(AA HX.out 6).trans rfl); (have Ih:w9.cell? ⟨g6,7,none⟩ = some (.int .u32 0):=(AA HX.out 7).trans rfl); (have hc8:w9.cell? ⟨g6,8,none⟩ = some (.complex .f64 0 0):=(AA HX.out 8).trans rfl); (have Hu:w9.cell? ⟨g6,9,none⟩ = some (.slice none 0 0):=(AA HX.out 9).trans rfl)) | ((go_at_call 20); (refine (check_any _ _ _ _ _ _ _ _ _ _ _ _ _ _ (by decide) (by decide)).mono ?_); (rintro e wc ⟨rfl,hb⟩); (have Aq:=HW.out.trans (hb.mono HW.out.size)); (have Bd:=(hb.block w.heap.size (AU HP.out)).trans HP.out); (have DJ:=(hb.block g6 (AU HX.out)).trans HX.out); (clear HR HW HP HB HX hb); (have HW:=Lib.hid Aq); (have HP:=Lib.hid Bd); (have HX:=Lib.hid DJ); (clear Aq Bd DJ); (generalize hE:Ah _ _ _ _ _ _ _ _ _ _ _ = E); (have HE:=Lib.hid hE); (clear hE); (have hq0:wc.cell? ⟨g6,0,none⟩ = some (.int .i64 1):=(AA HX.out 0).trans rfl); (have hq1:wc.cell? ⟨g6,1,none⟩ = some (.int .u32 (IntKind.u32.wrap (AP (l1)))):=(AA HX.out 1).trans rfl); (have hq2:wc.cell? ⟨g6,2,none⟩ = some (.int .u32 (IntKind.u32.wrap (AP (AO (l1))))):=(AA HX.out 2).trans rfl); (have hq3:wc.cell? ⟨g6,3,none⟩ = some (.int .u32 (IntKind.u32.wrap (AP (AO (AO (l1)))))):=(AA HX.out 3).trans rfl); (have hq4:wc.cell? ⟨g6,4,none⟩ = some (.int .u32 (IntKind.u32.wrap (num1 (AO (AO (AO (l1))))))):=(AA HX.out 4).trans rfl); (have hq5:wc.cell? ⟨g6,5,none⟩ = some (.int .u32 0):=(AA HX.out 5).trans rfl); (have hq6:wc.cell? ⟨g6,6,none⟩ = some (.int .u32 0):=(AA HX.out 6).trans rfl); (have hq7:wc.cell? ⟨g6,7,none⟩ = some (.int .u32 0):=(AA HX.out 7).trans rfl); (have hq8:wc.cell? ⟨g6,8,none⟩ = some (.complex .f64 0 0):=(AA HX.out 8).trans rfl); (have jk:wc.cell? ⟨g6,9,none⟩ = some (.slice none 0 0):=(AA HX.out 9).trans rfl)))
 all_goals (
  refine bodyPost_ret (v:=.tuple #[.agg (Df E #[.int .i64 1,.int .u32 (IntKind.u32.wrap (AP (l1))),.int .u32 (IntKind.u32.wrap (AP (AO (l1)))),.int .u32 (IntKind.u32.wrap (AP (AO (AO (l1))))),.int .u32 (IntKind.u32.wrap (num1 (AO (AO (AO (l1)))))),.int .u32 0,.int .u32 0,.int .u32 0,.complex .f64 0 0,.slice none 0 0]),.int .i64 E]) ?_ rfl ?_
  rotate_left
  ·have hq:=HE.out
   skip
   refine ⟨?_,Ey.out.below HW.out (Nat.le_refl _)⟩
   simp only [GR]
   first | rw [hq] | skip
  have hl5:=run_loadVar_row (P:=Try.prog) w5 w.heap.size 27 27 _ (0,0) _ Hy.out Try.underlying27 rfl (by kernel_rfl))
 all_goals first
  | ((have hE0:E ≠ 0:=by simp_all); (rw [Df,if_neg hE0]); (exact Ag Try.results16 _ _ rfl rfl hl5))
  | ((have hE0:E = 0:=by simp_all); (rw [Df,if_pos hE0,hE0]); (exact Ag Try.results16 _ _ rfl rfl hl5))
end Go.Proofs.Ytnkkgofpifhoeaa.iE
end
