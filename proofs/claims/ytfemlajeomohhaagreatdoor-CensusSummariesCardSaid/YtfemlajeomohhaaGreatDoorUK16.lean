/- A part of the claim: see its last text. -/
import Derived.Test.YtfemlajeomohhaaGreatDoorUK15
import Derived.Laws.MakeOwn

set_option maxRecDepth 100000
set_option maxHeartbeats 16000000
namespace Go.Proofs.YtfemlajeomohhaaGreatDoor
open Go Go.RowKit Go.Proofs
theorem Av.row {B:Nat} {w:World} {v:Value} {l:List Int} (h:Av B w v l):(v=.slice none 0 0∧l=[])∨∃ L c cs,v=.slice (some ⟨L,0,none⟩) l.length c∧B≤L∧F8 w L cs l∧cs.size=c∧c≤maxLen:=by
 rcases h.2 with⟨rfl,h0⟩|⟨g,cap,cur,rfl,hB,hh,hc,hm,hs,ht⟩
 · exact .inl ⟨rfl,List.eq_nil_of_length_eq_zero h0⟩
 · refine .inr ⟨g,cap,cur,rfl,hB,⟨hh,by omega,fun j hj=>?_⟩,by omega,hm⟩
   have h1:(l.map (Value.int .i64))[j]? = some (.int .i64 l[j]):=by simp[hj]
   rw[← ht,List.getElem?_take] at h1
   split at h1
   · simpa using h1
   · cases h1
theorem F8.own {B:Nat} {w:World} {L c:Nat} {cs:Array Value} {l:List Int} (h:F8 w L cs l) (hB:B≤L) (hc:cs.size=c) (hm:c≤maxLen):Av B w (.slice (some ⟨L,0,none⟩) l.length c) l:=by
 refine⟨by simp,.inr ⟨L,c,cs,rfl,hB,h.1,by have:=h.2.1;omega,hm,by omega,?_⟩⟩
 rw[Nat.mul_one]
 apply List.ext_getElem?
 intro j
 rw[List.getElem?_take]
 split
 · rename_i hj
   have:=h.2.2 j hj
   simp only[Array.getElem?_toList]
   rw[this];simp[hj]
 · rename_i hj
   rw[List.getElem?_eq_none (by simp;omega)]
theorem Kc (g:Nat) (lb:Array Value) (eg:∀ args w,(callFunc g args).run Tryz.prog w=.ok (.enter g args) w) (w:World) :
    Calls Tryz.prog 208 #[.slice none 0 0,.func (.func g) #[] lb] w fun e w'=>e=.returned (.slice none 0 0)∧Below w.heap.size w w':=by
 have HI:=hide (Dq g lb eg (fun _=>true) none 0 [] w (by simp) ⟨rfl,fun h=>absurd h (by simp)⟩ fun k hk=>absurd hk (by simp))
 have HF:=hide (show Ae (fun _:Int=>true) [] = -1 from rfl)
 rw[HF.out] at HI
 clear HF
 go_enter Tryz.func208,Tryz.ntmps208
 go_wp2_with (go_at_call 183;refine HI.out.mono ?_;rintro e w1 ⟨rfl,hb1⟩)
 go_ret
 exact⟨rfl,hb1⟩
theorem Ke {B:Nat} (g:Nat) (lb:Array Value) (eg:∀ args w,(callFunc g args).run Tryz.prog w=.ok (.enter g args) w) (p:Int→Bool) (v:Value) (l:List Int) (w:World) (h:Av B w v l) (hl:l.length≤1000000000)
    (hp:∀ (x:Int) (W:World) (L:Nat),v.ownBlock=some L→But L w.heap.size w W→Calls Tryz.prog g (#[.int .i64 x]++lb) W fun e w'=>e=.returned (.bool (p x))∧Below W.heap.size W w') :
    Calls Tryz.prog 208 #[v,.func (.func g) #[] lb] w fun e w'=>∃ v',e=.returned v'∧Av B w' v' (l.filter fun x=>!p x)∧Below (min B w.heap.size) w w':=by
 rcases h.row with⟨rfl,rfl⟩|⟨L,c,cs,rfl,hB,hR,hc,hm⟩
 · refine(Kc g lb eg w).mono ?_
   rintro e w1 ⟨rfl,hb⟩
   exact⟨_,rfl,Av.nil_ _ _,hb.mono (by omega)⟩
 · refine (J5 g lb eg p L c l cs w hl hR hc fun x W hW=>hp x W L rfl hW).mono ?_
   · rintro e w1 ⟨rfl,⟨cs',hR',hc'⟩,hb⟩
     exact⟨_,rfl,hR'.own hB hc' hm,⟨hb.os,hb.tape,hb.output,hb.size,fun k hk=>hb.block k (by omega) (by omega)⟩⟩
theorem KS (h:MH) (m:AC) (f:Int×Int) (x:Int) (bm bf B:Nat) (W:World) (hM:AB W bm 29 #[.slice h.s m.sT.length h.sc,.slice h.f m.fT.length h.fc,.slice h.r m.rT.length h.rc,.slice h.m m.mT.length h.mc,.slice h.l m.lT.length h.lc,.slice h.i m.iT.length h.ic,.int .i64 m.dT,.int .i64 m.oT,.int .i64 m.vT,.int .i64 m.aT,.slice h.u m.uT.length h.uc]) (hF:AB W bf 109 #[.int .i64 f.1,.int .i64 f.2]) (d:MD W B h m) (hB:B≤W.heap.size) :
    Calls Tryz.prog 209 #[.int .i64 x,.pointer (some ⟨bm,0,none⟩),.pointer (some ⟨bf,0,none⟩)] W fun e w'=>e=.returned (.bool (CV m f x))∧Below W.heap.size W w':=by
 obtain⟨a0,a1,a2,a3,a4,a5,a6,a7,a8,a9,a10⟩:=MB.cells hM
 have f0:=hF.cell 0
 have f1:=hF.cell 1
 simp at f0 f1
 have l1:=hM.lt
 have l2:=hF.lt
 have HC:=hide (Qp h m f x W (d.more hB))
 clear d hM hF
 go_enter Tryz.func209,Tryz.ntmps209
 go_wp2_with (go_at_call 210;refine HC.out.mono ?_;rintro e w1 ⟨rfl,hb1⟩)
 go_ret
 exact⟨rfl,hb1⟩
theorem SX (h:MH) (m:AC) (f:Int×Int) (l:List Int) (v1:Value) (bm bf:Nat) (w wb w1:World) (hb:Below w.heap.size w wb) (hM:AB wb bm 29 #[.slice h.s m.sT.length h.sc,.slice h.f m.fT.length h.fc,.slice h.r m.rT.length h.rc,.slice h.m m.mT.length h.mc,.slice h.l m.lT.length h.lc,.slice h.i m.iT.length h.ic,.int .i64 m.dT,.int .i64 m.oT,.int .i64 m.vT,.int .i64 m.aT,.slice h.u m.uT.length h.uc]) (hF:AB wb bf 109 #[.int .i64 f.1,.int .i64 f.2]) (d:MD w w.heap.size h m)
    (hb1:Below wb.heap.size wb w1) (ho1:Av wb.heap.size w1 v1 l) (hl:l.length≤1000) :
    Calls Tryz.prog 208 #[v1,.func (.func 209) #[] #[.pointer (some ⟨bm,0,none⟩),.pointer (some ⟨bf,0,none⟩)]] w1 fun e w'=>∃ v',e=.returned v'∧Av wb.heap.size w' v' (l.filter fun x=>!CV m f x)∧Below wb.heap.size w1 w':=by
 refine(Ke 209 #[.pointer (some ⟨bm,0,none⟩),.pointer (some ⟨bf,0,none⟩)] (fun _ _=>by kernel_rfl) (fun x=>CV m f x) v1 l w1 ho1 (by omega) (fun x W L hL hW=>?_)).mono ?_
 · have hLb:=(ho1.lt L hL).1
   have hbW:Below wb.heap.size w1 W:=⟨hW.os,hW.tape,hW.output,hW.size,fun k hk=>hW.block k (by have:=hb1.size;omega) (by omega)⟩
   have hbx:Below wb.heap.size wb W:=hb1.trans hbW
   have hM2:=hM.below hbx hM.lt
   have hF2:=hF.below hbx hF.lt
   exact KS h m f x bm bf w.heap.size W hM2 hF2 ((d.below hb).below (hbx.mono hb.size)) (by have:=hb.size;have:=hbx.size;omega)
 · rintro e w2 ⟨v',rfl,ho,hb2⟩
   exact⟨v',rfl,ho,hb2.mono (by have:=hb1.size;omega)⟩
theorem LC (h:MH) (m:AC) (A:Option Addr) (c:Nat) (p:AA) (f:Int×Int) (item:Int) (w:World) (d:MD w w.heap.size h m) (hp:PR w w.heap.size A p) (hl:p.length≤1000) (hul:(AQ p item).length≤1000) :
    Calls Tryz.prog 177 #[.agg #[.slice h.s m.sT.length h.sc,.slice h.f m.fT.length h.fc,.slice h.r m.rT.length h.rc,.slice h.m m.mT.length h.mc,.slice h.l m.lT.length h.lc,.slice h.i m.iT.length h.ic,.int .i64 m.dT,.int .i64 m.oT,.int .i64 m.vT,.int .i64 m.aT,.slice h.u m.uT.length h.uc],.agg #[.slice A p.length c],.agg #[.int .i64 f.1,.int .i64 f.2],.int .i64 item] w (GZ w (Bo m p f item)):=by
 have hb0:Below w.heap.size w (((w.alloc (.cells #[.slice h.s m.sT.length h.sc,.slice h.f m.fT.length h.fc,.slice h.r m.rT.length h.rc,.slice h.m m.mT.length h.mc,.slice h.l m.lT.length h.lc,.slice h.i m.iT.length h.ic,.int .i64 m.dT,.int .i64 m.oT,.int .i64 m.vT,.int .i64 m.aT,.slice h.u m.uT.length h.uc] 29)).alloc (.cells #[.slice A p.length c] 56)).alloc (.cells #[.int .i64 f.1,.int .i64 f.2] 109)):=(((Below.refl w.heap.size w).alloc (Nat.le_refl _) _).alloc (by simp) _).alloc (by simp;omega) _
 have HB:=hide hb0
 have HM:=hide (FE A c p item 0 _ (hp.grow hb0) hl hul)
 have HSD:=hide (fun v1 w1=>SX h m f (Af p item 0) v1 w.heap.size (w.heap.size+1+1) w _ w1 hb0 (((AB.new w _ _).alloc _).alloc _) (by
  have:=AB.new ((w.alloc (.cells #[.slice h.s m.sT.length h.sc,.slice h.f m.fT.length h.fc,.slice h.r m.rT.length h.rc,.slice h.m m.mT.length h.mc,.slice h.l m.lT.length h.lc,.slice h.i m.iT.length h.ic,.int .i64 m.dT,.int .i64 m.oT,.int .i64 m.vT,.int .i64 m.aT,.slice h.u m.uT.length h.uc] 29)).alloc (.cells #[.slice A p.length c] 56)) 109 #[.int .i64 f.1,.int .i64 f.2]
  simpa using this) d)
 have HML:=hide (show(Af p item 0).length≤1000 by have:=Bu p item 0;omega)
 clear hb0 d hp
 go_enter Tryz.func177,Tryz.ntmps177
 go_wp2_with (first
  | (go_at_call 34;refine HM.out.mono ?_;rintro e w1 ⟨v1,rfl,ho1,hb1⟩;have HDF:=hide (HSD.out v1 w1 hb1 ho1 HML.out);have HB1:=hide hb1;obtain⟨A1,c1,rfl,_⟩:=ho1.form;clear ho1 hb1)
  | (go_at_call 208;refine HDF.out.mono ?_;rintro e w2 ⟨v2,rfl,ho2,hb2⟩;have HO2:=hide ho2;have HB2:=hide hb2;clear ho2 hb2))
 go_ret
 refine⟨v2,rfl,Fx HO2.out HB.out.size,(HB.out.trans (HB1.out.mono HB.out.size)).trans (HB2.out.mono HB.out.size)⟩
theorem Ov (n:Nat) (hn:n≤1000) (w:World):(Instr.makeSlice 47 (.int .i64 (n:Int)) (.int .i64 (n:Int))).run Tryz.prog w=.ok (.slice (some ⟨w.heap.size,0,none⟩) n n) (w.alloc (.cells ((List.replicate n (0:Int)).map (Value.int .i64)).toArray 3)):=by
 obtain⟨i0,hi,hz0,hz1,hz2⟩:=info_parts Sj
 rw[run_makeSlice (w:=w) 47 3 i0 (.int .i64 0) Tryz.underlying47 hi hz0 .i64 .i64 n n (by omega) (by omega) (by rw[hz1];simp;omega) (by rw[hz2];simp;omega) (by omega)]
 have:madeCells (Value.int .i64 0).cells ((n:Int).toNat*i0.size)=((List.replicate n (0:Int)).map (Value.int .i64)).toArray:=by
  rw[hz1]
  simp only[madeCells,Value.cells,Int.toNat_natCast,Nat.mul_one]
  apply Array.ext <;> simp[Nat.mod_one]
 rw[this]
 simp
theorem OY (h : MH) (m:AC) (A:Option Addr) (c:Nat) (p:AA) (item by_:Int) (w:World) (d:MD w w.heap.size h m) (hp:PR w w.heap.size A p) (hl:p.length≤1000) (hul:(AQ p item).length≤1000) (hd:AZ m by_≤100) :
    Calls Tryz.prog 184 #[.agg #[.slice h.s m.sT.length h.sc,.slice h.f m.fT.length h.fc,.slice h.r m.rT.length h.rc,.slice h.m m.mT.length h.mc,.slice h.l m.lT.length h.lc,.slice h.i m.iT.length h.ic,.int .i64 m.dT,.int .i64 m.oT,.int .i64 m.vT,.int .i64 m.aT,.slice h.u m.uT.length h.uc],.agg #[.slice A p.length c],.int .i64 item,.int .i64 by_] w (GZ w (BU m p item by_)):=by
 have hb0:Below w.heap.size w ((w.alloc (.cells #[.slice h.s m.sT.length h.sc,.slice h.f m.fT.length h.fc,.slice h.r m.rT.length h.rc,.slice h.m m.mT.length h.mc,.slice h.l m.lT.length h.lc,.slice h.i m.iT.length h.ic,.int .i64 m.dT,.int .i64 m.oT,.int .i64 m.vT,.int .i64 m.aT,.slice h.u m.uT.length h.uc] 29)).alloc (.cells #[.slice A p.length c] 56)):=((Below.refl w.heap.size w).alloc (Nat.le_refl _) _).alloc (by simp) _
 have HB:=hide hb0
 have HDM:=hide (Ii h m by_ ((w.alloc (.cells #[.slice h.s m.sT.length h.sc,.slice h.f m.fT.length h.fc,.slice h.r m.rT.length h.rc,.slice h.m m.mT.length h.mc,.slice h.l m.lT.length h.lc,.slice h.i m.iT.length h.ic,.int .i64 m.dT,.int .i64 m.oT,.int .i64 m.vT,.int .i64 m.aT,.slice h.u m.uT.length h.uc] 29)).alloc (.cells #[.slice A p.length c] 56)) d.ml d.rl d.fl d.sl)
 have HD:=hide (fun W (hb:Below w.heap.size w W) (x:Int)=>G5 h m by_ x W (d.grow hb))
 have HM:=hide (fun W (hb:Below w.heap.size w W)=>FE A c p item 0 W (hp.grow hb) hl hul)
 have HML:=hide (show(Af p item 0).length≤1000 by have:=Bu p item 0;omega)
 have HDI:=hide (show 0≤AZ m by_∧AZ m by_≤100 from⟨Cw _ _,hd⟩)
 clear hb0 d hp hd
 go_enter Tryz.func184,Tryz.ntmps184
 go_wp2_with (go_at_call 211;refine HDM.out.mono ?_;rintro e w1 ⟨rfl,hb1⟩;have HB1:=hide hb1;clear hb1)
 obtain⟨n,hn⟩:∃ n:Nat,AZ m by_=(n:Int):=⟨(AZ m by_).toNat,by have:=HDI.out;omega⟩
 have hn100:n≤100:=by have:=HDI.out;omega
 have HN:=hide hn
 rw[hn]
 clear hn
 have hmk:=Ov n (by omega) w1
 rw[hmk]
 clear hmk
 obtain⟨cs0,hcs0⟩:∃ cs0,cs0=((List.replicate n (0:Int)).map (Value.int .i64)).toArray:=⟨_,rfl⟩
 rw[← hcs0]
 simp only[Result.andThen_ok,Oper.upon_value]
 have HB2:=hide ((HB.out.trans (HB1.out.mono HB.out.size)).alloc (HB.out.trans (HB1.out.mono HB.out.size)).size (.cells cs0 3))
 have HX:=hide (HM.out _ HB2.out)
 have HG:=hide (AB.new w1 3 cs0)
 have HBM:=hide ((((AB.new w 29 #[.slice h.s m.sT.length h.sc,.slice h.f m.fT.length h.fc,.slice h.r m.rT.length h.rc,.slice h.m m.mT.length h.mc,.slice h.l m.lT.length h.lc,.slice h.i m.iT.length h.ic,.int .i64 m.dT,.int .i64 m.oT,.int .i64 m.vT,.int .i64 m.aT,.slice h.u m.uT.length h.uc]).alloc (.cells #[.slice A p.length c] 56)).below HB1.out (by simp;omega)).alloc (.cells cs0 3))
 have HCS:=hide hcs0
 clear hcs0
 have HPB:=hide (show(w1.alloc (.cells cs0 3)).cell? ⟨w.heap.size+1,0,none⟩=some (.slice A p.length c)∧w.heap.size+1<(w1.alloc (.cells cs0 3)).heap.size from by
  have h1:=((AB.new (w.alloc (.cells #[.slice h.s m.sT.length h.sc,.slice h.f m.fT.length h.fc,.slice h.r m.rT.length h.rc,.slice h.m m.mT.length h.mc,.slice h.l m.lT.length h.lc,.slice h.i m.iT.length h.ic,.int .i64 m.dT,.int .i64 m.oT,.int .i64 m.vT,.int .i64 m.aT,.slice h.u m.uT.length h.uc] 29)) 56 #[.slice A p.length c]).below HB1.out (by simp)).alloc (.cells cs0 3)
  simp only[World.size_alloc] at h1
  exact⟨by rw[h1.cell];rfl,h1.lt⟩)
 obtain⟨pb0,pb1⟩:=HPB.out
 go_wp2_with (go_at_call 34;refine HX.out.mono ?_;rintro e w3 ⟨v3,rfl,ho3,hb3⟩;have HO3:=hide ho3;have HB3:=hide hb3;obtain⟨A3,c3,rfl,_⟩:=ho3.form;clear ho3 hb3)
 obtain⟨L,hL⟩:∃ L,L=Af p item 0:=⟨_,rfl⟩
 have HL:=hide hL
 rw[← hL] at HO3 ⊢
 have hLl:L.length≤1000:=by rw[hL];exact HML.out
 have HR3:=hide HO3.out.row
 have HNI:=hide (show AZ m by_=(n:Int) from HN.out)
 have HB03:=hide (HB2.out.trans (HB3.out.mono HB2.out.size))
 have HG3:=hide (HG.out.below HB3.out (by simp))
 have hgw:w.heap.size≤w1.heap.size:=(HB.out.trans (HB1.out.mono HB.out.size)).size
 have HBM3:=hide (HBM.out.below HB3.out HBM.out.lt)
 have hgne:w.heap.size≠w1.heap.size:=by have:=HB1.out.size;simp at this;omega
 have HGN:=hide hgne
 clear hL pb0 pb1 hgne
 go_loopw [21] (fun i wr=>∃ k:Nat,k≤L.length∧i=.int .i64 k∧Hid (Am w1.heap.size w3 wr∧AB wr w1.heap.size 3 ((Ag m by_ (L.take k)).map (Value.int .i64)).toArray)) (fun i _=>L.length - (intOf i).toNat)
 case atStart =>
  refine⟨0,Nat.zero_le _,rfl,⟨rfl,rfl,rfl,Nat.le_refl _,fun _ _ _=>rfl⟩,?_⟩
  have:Ag m by_ (L.take 0)=List.replicate n 0:=by rw[List.take_zero,Ha,HNI.out];rfl
  rw[this,← HCS.out]
  exact HG3.out
 case round =>
  obtain⟨k,hk,rfl,hS⟩:=hrel
  by_cases hlt:k<L.length
  · rcases HR3.out with ⟨_,h0⟩|⟨Lb,c',cs,e3,hLb,hRow,_,_⟩
    · rw[h0] at hlt;exact absurd hlt (by simp)
    · obtain ⟨rfl, rfl⟩:A3=some ⟨Lb,0,none⟩∧c3=c':=by simpa using e3
      have hne:Lb≠w1.heap.size:=by have:=hLb;simp at this;omega
      obtain⟨x,hx⟩:∃ x,x=L[k]:=⟨_,rfl⟩
      have hB:=hS.out.1.blk hRow.1 hne
      have x0:wr.cell? ⟨Lb,k,none⟩=some (.int .i64 x):=by rw[hB.cell,hRow.2.2 k hlt,hx]
      have xl:=hB.lt
      obtain⟨T,hT⟩:∃ T,T=L.take k:=⟨_,rfl⟩
      have hTk:L.take (k+1)=T ++ [x]:=by rw[List.take_succ_eq_append_getElem hlt,hT,hx]
      have hTl:T.length≤1000:=by rw[hT];simp;omega
      have HTK:=hide hTk
      rw[← hT] at hS
      have hbr:Below w.heap.size w wr:=HB03.out.trans (hS.out.1.toBelow hgw HB03.out.size)
      have HBR:=hide hbr
      have HC:=hide (HD.out wr hbr x)
      have hBM:=hS.out.1.blk HBM3.out HGN.out
      obtain⟨a0,a1,a2,a3,a4,a5,a6,a7,a8,a9,a10⟩:=MB.cells hBM
      have al:=hBM.lt
      have HSL:=hide (DL m by_ T)
      clear hB hRow hBM hx hT hTk hbr e3 hLb
      rcases H7 m by_ x with hd|hd
      · have HDx:=hide hd
        have hlt0:BN m by_ x<1:=by omega
        have HNO:=hide (IM m by_ T hlt0)
        clear hd hlt0
        go_wp2_with ((with_reducible refine Calls.mono HC.out ?_);rintro e w5 ⟨he,hb5⟩;rw[HDx.out] at he;subst he;have HB5:=hide hb5;clear hb5)
        go_roundw
        case rel=>exact⟨k+1,by omega,by go_num,hS.out.1.trans (Am.below HB5.out),by rw[HTK.out,HNO.out];exact hS.out.2.below HB5.out hS.out.2.lt⟩
        case measure=>simp[intOf];omega
      · obtain ⟨d, hd1,hd2⟩:∃ d:Nat,BN m by_ x=(d:Int)+1∧d<n:=⟨(BN m by_ x - 1).toNat,by omega,by have:=HNI.out;omega⟩
        have hds:d<(Ag m by_ T).length:=by rw[HSL.out,HNI.out];simpa using hd2
        have HDx:=hide hd1
        have HYS:=hide (Hd m by_ T hd1 hds)
        have hle:=IL m by_ T hds
        obtain⟨s,hs⟩:∃ s,s=(Ag m by_ T)[d]:=⟨_,rfl⟩
        rw[← hs] at HYS hle
        have hs0:0≤s:=hle.1
        have hs1:s≤1000:=by omega
        have HCL:=hide (show((Ag m by_ T).map (Value.int .i64)).toArray[d]? = some (.int .i64 s) by simp[hds,hs])
        have hdI:(d:Int)<(n:Int):=by omega
        have hd0:(0:Int)≤(d:Int):=by omega
        clear hd hd1 hle hs
        go_wp2_with ((with_reducible refine Calls.mono HC.out ?_);rintro e w5 ⟨he,hb5⟩;rw[HDx.out] at he;subst he
                     have hG5:=hS.out.2.below hb5 hS.out.2.lt
                     have g0:w5.cell? ⟨w1.heap.size,d,none⟩=some (.int .i64 s):=by rw[hG5.cell,HCL.out]
                     have gf:=hG5.frozen d
                     have gl:=hG5.lt
                     have HG5:=hide hG5
                     have HB5:=hide hb5
                     clear hb5 hG5)
        go_roundw
        case rel=>exact⟨k+1,by omega,by go_num,(hS.out.1.trans (Am.below HB5.out)).trans (Am.set_ _ _ _),by
         rw[HTK.out,HYS.out]
         have:=HG5.out.set_ d (.int .i64 (s+1))
         simpa[List.map_set] using this⟩
        case measure=>simp[intOf];omega
  · obtain rfl:k=L.length:=by omega
    have hS:=hS.out
    rw[List.take_length] at hS
    have HS:=hide hS
    clear hS
    go_wp2_with fail
    go_ret
    have hlen:(BU m p item by_).length=n:=by rw[Dc,DL,HNI.out];rfl
    have hx:maxLen=9223372036854775807:=by decide
    have hsp:BU m p item by_=Ag m by_ L:=by rw[Dc,HL.out]
    have:=F8.own (B:=w.heap.size) (w:=wr) (L:=w1.heap.size) (c:=n) (cs:=((Ag m by_ L).map (Value.int .i64)).toArray) (l:=BU m p item by_) ⟨HS.out.2,by rw[hsp];simp,fun j hj=>by rw[hsp] at hj;simp[hsp,hj]⟩ hgw (by rw[← hlen,hsp];simp) (by omega)
    rw[hlen] at this
    exact⟨_,rfl,this,HB03.out.trans (HS.out.1.toBelow hgw HB03.out.size)⟩
theorem below_drewN (w:World) (n:Nat):Below w.heap.size w (w.drewN n):=by
 induction n with
 | zero=>exact Below.refl _ _
 | succ n ih=>exact ih.drew
theorem PL (A1 A2:Option Addr) (c1 c2:Nat) (l m:List Int) (w:World) (h1:Ints w w.heap.size A1 l) (h2:Ints w w.heap.size A2 m) (hl:l.length≤9223372036854775807) (hm:m.length≤9223372036854775807) :
    Calls Tryz.prog 168 #[.slice A1 l.length c1,.slice A2 m.length c2] w fun e w'=>e=.returned (.bool (decide (l=m)))∧Below w.heap.size w w':=by
 by_cases hlen:l.length=m.length
 · by_cases hn:l=[]
   · subst hn
     have hm0:m=[]:=List.eq_nil_of_length_eq_zero hlen.symm
     subst hm0
     exact(Tryz.slices_Equal_int_empty A1 A2 c1 0 c2 w (by simp)).mono fun e w' ⟨he,hw⟩=>⟨by rw[he];rfl,hw ▸ Below.refl _ _⟩
   · have hn2:m≠[]:=by intro h;subst h;exact hn (List.eq_nil_of_length_eq_zero hlen)
     obtain⟨b1,o1,rfl,hb1,hc1⟩:=h1.form hn
     obtain⟨b2,o2,rfl,hb2,hc2⟩:=h2.form hn2
     refine(Tryz.slices_Equal_int b1 o1 l.length c1 b2 o2 m.length c2 l m w (Nat.le_refl _) (Nat.le_refl _) hl hm hc1 hc2).mono fun e w' ⟨he,q,hw⟩=>⟨?_,hw ▸ below_drewN w q⟩
     rw[he,List.take_length,List.take_length]
     congr 2
     rw[Bool.eq_iff_iff];simp
 · refine(Tryz.slices_Equal_int_lens A1 A2 l.length c1 m.length c2 w hlen).mono fun e w' ⟨he,hw⟩=>⟨?_,hw ▸ Below.refl _ _⟩
   have:¬ l=m:=fun h=>hlen (by rw[h])
   rw[he];simp[this]
theorem Ints.newRow (w:World) (t:TypeId) (l:List Int):Ints (w.alloc (.cells (l.map (Value.int .i64)).toArray t)) (w.heap.size+1) (some ⟨w.heap.size,0,none⟩) l:=by
 have:=Reads.newRow w (l.map (Value.int .i64)).toArray t l.length 1 (by simp)
 simpa[Ints] using this
theorem DV (A:Option Addr) (c:Nat) (l:List Int) (s:Int) (w:World) (hl:l.length≤9223372036854775807) (h:Ints w w.heap.size A l) :
    Calls Tryz.prog 65 #[.slice A l.length c,.int .i64 s] w fun e w'=>e=.returned (.bool (decide (s∈l)))∧w=w':=by
 by_cases hn:l=[]
 · subst hn
   exact(Tryz.slices_Contains_int_empty A c s w).mono fun e w' ⟨he,hw⟩=>⟨by rw[he];rfl,hw.symm⟩
 · obtain⟨b,off,rfl,hb,hc⟩:=h.form hn
   refine(Tryz.slices_Contains_int b off l.length c l s w (Nat.le_refl _) hl hc).mono fun e w' ⟨he,hw⟩=>⟨?_,hw.symm⟩
   rw[he,List.take_length]
   simp
end Go.Proofs.YtfemlajeomohhaaGreatDoor
