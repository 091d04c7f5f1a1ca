/- A part of the claim: see its last text. -/
import Derived.Test.YtfemlajeomohhaaGreatDoorUK40

set_option maxRecDepth 100000
set_option maxHeartbeats 16000000
namespace Go.Proofs.YtfemlajeomohhaaGreatDoor
open Go Go.RowKit Go.Proofs
theorem CL.empty (w:World):CL w.heap.size (w.alloc (.cells #[] 60)) (.slice (some ⟨w.heap.size,0,none⟩) 0 0) []:=by
 have:=World.ownsRow_lit (e:=60) (size:=4) w #[] 0 (Nat.le_refl _) (by decide) (by simp)
 simpa[CL,BF] using this
theorem OM {w:World} {B B':Nat} {v:Value} {l:List CK} (h:CL B' w v l) (hB:B≤B'):CL B w v l:=by
 refine⟨h.1,?_⟩
 rcases h.2 with h0|⟨g,cap,cur,e1,e2,h3⟩
 · exact .inl h0
 · exact .inr ⟨g,cap,cur,e1,by omega,h3⟩
theorem LB {ops:Array Oper} {o:Oper} {a:Act} {K:Act→World→Prop} {Q:Exit→Act→World→Prop} {E:Prop} {w:World} (hgd:o.guard=none) (s x:Operand)
    (ho:o.op=.call { callee:=.builtin .append,args:=#[s,x],argTypes:=#[35,35] })
    (base:Nat) (v:Value) (l:List CK) (hs:a.eval s=v) (hown:CL base w v l)
    (B:Nat) (A:Option Addr) (c:Nat) (b:CK) (hx:a.eval x=.slice A 1 c) (hr:Reads w B 4 A 1 (BF [b]))
    (hlen:l.length+1≤1000000) (hbase:base≤w.heap.size)
    (h:∀ v' w',CL base w' v' (l ++ [b])→w.grownBy w' v.ownBlock→K (a.put o.dst v') w') :
    if Region.wanted o (yielded ops a.tmps)=true then Oper.wp Tryz.prog o a w K Q else E:=by
 have hw:Region.wanted o (yielded ops a.tmps)=true:=by simp[Region.wanted,hgd]
 rw[if_pos hw]
 obtain⟨i0,hi,hz0,hz1,hz2⟩:=info_parts Qt
 refine BZ w s x 35 ho base 60 i0 _ 4 32 Tryz.underlying35 hi hz0 hz1 hz2 rfl (by omega) v l.length (BF l) hs hown B A 1 c (BF [b]) hx hr (JU [b]) (by unfold maxLen;omega) (by omega) hbase
  fun v' w' h2 h3 _=>h v' w' ?_ h3
 unfold CL;rw[Hg,List.length_append];exact h2
theorem Ul (w:World) (x:CK):Reads (w.alloc (.cells #[.int .i64 x.1,.int .i64 x.2.1,.int .i64 x.2.2.1,.int .i64 x.2.2.2] 60)) (w.heap.size+1) 4 (some ⟨w.heap.size,0,none⟩) 1 (BF [x]) :=
 ⟨rfl,fun _=>⟨_,rfl,by simp,fun j u hu=>by rw[BA,Nat.zero_add,CZ];simpa[BF] using hu⟩⟩
structure IP (w:World) (h:MH) (m:AC) (bp:Nat) (q:AA) (v:Value) (l:List CK) (W:World):Prop where
 b:Below w.heap.size w W
 mo:AB W w.heap.size 29 #[.slice h.s m.sT.length h.sc,.slice h.f m.fT.length h.fc,.slice h.r m.rT.length h.rc,.slice h.m m.mT.length h.mc,.slice h.l m.lT.length h.lc,.slice h.i m.iT.length h.ic,.int .i64 m.dT,.int .i64 m.oT,.int .i64 m.vT,.int .i64 m.aT,.slice h.u m.uT.length h.uc]
 pl:∃ A c,AB W bp 56 #[.slice A q.length c]∧PT W (.slice A q.length c) q
 o:CL w.heap.size W v l
theorem IP.grow {w:World} {h:MH} {m:AC} {bp:Nat} {q:AA} {v:Value} {l:List CK} {W W':World} (s:IP w h m bp q v l W) (hb:Below W.heap.size W W'):IP w h m bp q v l W':=by
 obtain⟨A,c,h1,h2⟩:=s.pl
 exact⟨s.b.trans (hb.mono s.b.size),s.mo.below hb s.mo.lt,⟨A,c,h1.below hb h1.lt,h2.below hb⟩,s.o.below hb⟩
theorem IP.appended {w:World} {h:MH} {m:AC} {bp:Nat} {q:AA} {v v':Value} {l l':List CK} {W W':World} (s:IP w h m bp q v l W) (hg:W.grownBy W' v.ownBlock) (ho:CL w.heap.size W' v' l'):IP w h m bp q v' l' W':=by
 obtain⟨A,c,h1,h2⟩:=s.pl
 exact⟨s.b.grown hg s.b.size (fun g e=>(s.o.lt g e).1),s.mo.grown hg (fun e=>s.o.ne s.mo (by decide) e.symm),⟨A,c,h1.grown hg (fun e=>s.o.ne h1 (by decide) e.symm),h2.keep (KT.grown s.o (by decide) hg) (KT.grown s.o (by decide) hg)⟩,ho⟩
theorem IP.turned {w:World} {h:MH} {m:AC} {bp:Nat} {q q':AA} {v:Value} {l:List CK} {W:World} (s:IP w h m bp q v l W) {A:Option Addr} {c:Nat} (hp:PT W (.slice A q'.length c) q') (hbp:w.heap.size≤bp):IP w h m bp q' v l (W.setCell ⟨bp,0,none⟩ (.slice A q'.length c)):=by
 obtain⟨A0,c0,h1,h2⟩:=s.pl
 refine⟨s.b.setCell (by simpa using hbp) _,s.mo.far (DN s.mo h1 (by decide)) _,⟨A,c,by simpa using h1.set_ 0 (.slice A q'.length c),hp.keep (KT.set_ h1 (by decide) 0 _) (KT.set_ h1 (by decide) 0 _)⟩,?_⟩
 exact s.o.keep fun g cur e hB=>hB.far (fun e2=>s.o.ne h1 (by decide) (by rw[e,e2])) _
structure Cs (w:World) (M:Array Value) (bu o:Nat) (X:Array Value) (bp:Nat) (P:Array Value) (W0 W:World):Prop where
 m:AB W w.heap.size 29 M
 r:∀ j u,X[j]? = some u→W.cell? ⟨bu,o+j,none⟩=some u
 lt:bu<w.heap.size
 p:AB W bp 56 P
 b:Below w.heap.size w W
 g:Below W0.heap.size W0 W
theorem Cs.grow {w:World} {M:Array Value} {bu o:Nat} {X:Array Value} {bp:Nat} {P:Array Value} {W0 W W':World} (s:Cs w M bu o X bp P W0 W) (hb:Below W.heap.size W W'):Cs w M bu o X bp P W0 W' :=
 ⟨s.m.below hb s.m.lt,fun j u hu=>(hb.cell (p:=⟨bu,o+j,none⟩) (Nat.lt_of_lt_of_le s.lt s.b.size)).trans (s.r j u hu),s.lt,s.p.below hb s.p.lt,s.b.trans (hb.mono s.b.size),s.g.trans (hb.mono s.g.size)⟩
theorem Cs.drew{w:World}{M:Array Value}{bu o:Nat}{X:Array Value}{bp:Nat}{P:Array Value}{W0 W:World}(s:Cs w M bu o X bp P W0 W):Cs w M bu o X bp P W0 W.drew:=s.grow (Below.refl _ W).drew
theorem Cs.cells {w:World} {h:MH} {m:AC} {bu ou o bp n cp:Nat} {x:AR} {A Ap:Option Addr} {c:Nat} {W0 W:World} (s:Cs w #[.slice h.s m.sT.length h.sc,.slice h.f m.fT.length h.fc,.slice h.r m.rT.length h.rc,.slice h.m m.mT.length h.mc,.slice h.l m.lT.length h.lc,.slice h.i m.iT.length h.ic,.int .i64 m.dT,.int .i64 m.oT,.int .i64 m.vT,.int .i64 m.aT,.slice (some ⟨bu,ou,none⟩) m.uT.length h.uc] bu o #[.int .i64 x.kind,.int .i64 x.item,.int .i64 x.other,.int .i64 x.n,.int .i64 x.by_,.bool x.always,.slice A x.machines.length c] bp #[.slice Ap n cp] W0 W) :
    (W.cell? ⟨w.heap.size,0,none⟩=some (.slice h.s m.sT.length h.sc)∧W.cell? ⟨w.heap.size,1,none⟩=some (.slice h.f m.fT.length h.fc)∧W.cell? ⟨w.heap.size,2,none⟩=some (.slice h.r m.rT.length h.rc)∧W.cell? ⟨w.heap.size,3,none⟩=some (.slice h.m m.mT.length h.mc)∧W.cell? ⟨w.heap.size,4,none⟩=some (.slice h.l m.lT.length h.lc)∧W.cell? ⟨w.heap.size,5,none⟩=some (.slice h.i m.iT.length h.ic)∧W.cell? ⟨w.heap.size,6,none⟩=some (.int .i64 m.dT)∧W.cell? ⟨w.heap.size,7,none⟩=some (.int .i64 m.oT)∧W.cell? ⟨w.heap.size,8,none⟩=some (.int .i64 m.vT)∧W.cell? ⟨w.heap.size,9,none⟩=some (.int .i64 m.aT)∧W.cell? ⟨w.heap.size,10,none⟩=some (.slice (some ⟨bu,ou,none⟩) m.uT.length h.uc))∧(W.cell? ⟨bu,o,none⟩=some (.int .i64 x.kind)∧W.cell? ⟨bu,o+1,none⟩=some (.int .i64 x.item)∧W.cell? ⟨bu,o+2,none⟩=some (.int .i64 x.other)∧W.cell? ⟨bu,o+3,none⟩=some (.int .i64 x.n)∧W.cell? ⟨bu,o+4,none⟩=some (.int .i64 x.by_)∧W.cell? ⟨bu,o+5,none⟩=some (.bool x.always)∧W.cell? ⟨bu,o+6,none⟩=some (.slice A x.machines.length c))∧W.cell? ⟨bp,0,none⟩=some (.slice Ap n cp) :=
 ⟨⟨s.m.cell 0,s.m.cell 1,s.m.cell 2,s.m.cell 3,s.m.cell 4,s.m.cell 5,s.m.cell 6,s.m.cell 7,s.m.cell 8,s.m.cell 9,s.m.cell 10⟩,⟨s.r 0 _ rfl,s.r 1 _ rfl,s.r 2 _ rfl,s.r 3 _ rfl,s.r 4 _ rfl,s.r 5 _ rfl,s.r 6 _ rfl⟩,s.p.cell 0⟩
def VO(w:World)(h:MH)(m:AC)(l:List EvM)(bp:Nat)(v i:Value)(wr:World):Prop:=∃ k:Nat,k≤l.length∧i=.int .i64 k∧IP w h m bp (AX m l k) v (BJ m l k) wr
theorem Ma (h : MH) (m:AC) (l:List EvM) (A:Option Addr) (c:Nat) (w:World) (C:Jv w h m) (hv:Ab m=true)
    (hE:Rows BD 22 w w.heap.size A l) (hl:l.length≤60) (hold:∀ x∈l,x.old.length≤10) :
    Calls Tryz.prog 41 #[.agg #[.slice h.s m.sT.length h.sc,.slice h.f m.fT.length h.fc,.slice h.r m.rT.length h.rc,.slice h.m m.mT.length h.mc,.slice h.l m.lT.length h.lc,.slice h.i m.iT.length h.ic,.int .i64 m.dT,.int .i64 m.oT,.int .i64 m.vT,.int .i64 m.aT,.slice h.u m.uT.length h.uc],.slice A l.length c] w (fun e w'=>∃ v,e=.returned v∧CL w.heap.size w' v (CE m l)∧Below w.heap.size w w'):=by
 have hb:=((Below.refl w.heap.size w).alloc (Nat.le_refl _) (.cells #[.slice h.s m.sT.length h.sc,.slice h.f m.fT.length h.fc,.slice h.r m.rT.length h.rc,.slice h.m m.mT.length h.mc,.slice h.l m.lT.length h.lc,.slice h.i m.iT.length h.ic,.int .i64 m.dT,.int .i64 m.oT,.int .i64 m.vT,.int .i64 m.aT,.slice h.u m.uT.length h.uc] 29)).alloc (by simp) (.cells #[] 60)
 have HB:=hide hb
 have HM0:=hide ((AB.new w 29 #[.slice h.s m.sT.length h.sc,.slice h.f m.fT.length h.fc,.slice h.r m.rT.length h.rc,.slice h.m m.mT.length h.mc,.slice h.l m.lT.length h.lc,.slice h.i m.iT.length h.ic,.int .i64 m.dT,.int .i64 m.oT,.int .i64 m.vT,.int .i64 m.aT,.slice h.u m.uT.length h.uc]).alloc (.cells #[] 60))
 have HI:=hide (G6 h m _ (C.d.grow hb) (by have:=C.il2;omega) (fun x hx=>by have:=C.on x hx;omega))
 have HO0:=hide (CL.empty (w.alloc (.cells #[.slice h.s m.sT.length h.sc,.slice h.f m.fT.length h.fc,.slice h.r m.rT.length h.rc,.slice h.m m.mT.length h.mc,.slice h.l m.lT.length h.lc,.slice h.i m.iT.length h.ic,.int .i64 m.dT,.int .i64 m.oT,.int .i64 m.vT,.int .i64 m.aT,.slice h.u m.uT.length h.uc] 29)))
 have HC0:=hide C
 have HEV:=hide (fun W (hW:Below w.heap.size w W)=>hE.below hW)
 have HK:=hide (fun(y:Bc) (hy:y∈m.iT)=>KW hv hy)
 have HRO:=hide (fun(x:AR) (hx:x∈m.uT)=>Ox hv hx)
 have HR:=hide (fun k=>Room.placeAt (m:=m) (l:=l) (by have:=C.il2;omega) C.on hold k)
 have HOL:=hide hold
 have hr100:=C.rl
 clear hb C hv hE hold
 go_enter Tryz.func41,Tryz.ntmps41
 go_wp2_with (go_at_call 81;refine HI.out.mono ?_;rintro e w1 ⟨A1,c1,rfl,hp1,hb1⟩
              have hb2:=(Below.refl w1.heap.size w1).alloc (Nat.le_refl _) (.cells #[.slice A1 (Al m).length c1] 56)
              have HS0:=hide (show IP w h m w1.heap.size (AX m l 0) (.slice (some ⟨w.heap.size+1,0,none⟩) 0 0) (BJ m l 0) (w1.alloc (.cells #[.slice A1 (Al m).length c1] 56)) from
               ⟨(HB.out.trans (hb1.mono HB.out.size)).trans (hb2.mono (HB.out.trans (hb1.mono HB.out.size)).size),(HM0.out.below hb1 HM0.out.lt).below hb2 (HM0.out.below hb1 HM0.out.lt).lt,⟨A1,c1,AB.new w1 _ _,hp1.below hb2⟩,by
                 have h1:=HO0.out
                 rw[World.size_alloc] at h1
                 exact OM ((h1.below hb1).below hb2) (Nat.le_succ _)⟩)
              have HW1:=hide (show w.heap.size≤w1.heap.size from(HB.out.trans (hb1.mono HB.out.size)).size)
              clear hp1 hb1 hb2)
 go_loopw [5,7] (fun v i wr=>VO w h m l w1.heap.size v i wr) (fun _ i _=>l.length - (intOf i).toNat)
 case atStart=>exact⟨0,Nat.zero_le _,rfl,HS0.out⟩
 case round =>
  clear HS0
  obtain⟨k,hk,rfl,hS⟩:=hrel
  have hS:=hide hS
  obtain⟨a0,a1,a2,a3,a4,a5,a6,a7,a8,a9,a10⟩:=MB.cells hS.out.mo
  have al:=hS.out.mo.lt
  by_cases hlt:k<l.length
  · obtain ⟨x, hx⟩ : ∃ x,l[k]=x:=⟨_,rfl⟩
    obtain⟨b,off,j,hA,hb,ho1,ho2,hoI,hc⟩:=(HEV.out wr hS.out.b).evRange hlt hx
    have hbl:=Nat.lt_of_lt_of_le hb hS.out.b.size
    have hxo:x.old.length≤10:=by rw[← hx];exact HOL.out _ (List.getElem_mem hlt)
    have HCR:=hide (fun W (hW:Below wr.heap.size wr W)=>G9 hc hW hbl)
    have HX:=hide hx
    have HCW:=hide (fun W (hW:Below w.heap.size w W)=>(fun jj v hv=>(hW.cell (p:=⟨b,(off+k*22)+jj,none⟩) hb).trans ((hS.out.b.cell (p:=⟨b,(off+k*22)+jj,none⟩) hb).symm.trans (hc jj v hv)):W.rangeAt b (off+k*22) [.int .i64 x.kind,.int .i64 x.mach,.int .i64 j.v2,.int .i64 j.v3,.int .i64 x.group,.int .i64 j.v5,.string j.v6,.int .i64 j.v7,.int .i64 j.v8,.int .i64 j.v9,.bool j.v10,.int .i64 j.v11,.slice j.A x.old.length j.c,.slice j.A13 j.n13 j.c13,.slice j.A14 j.n14 j.c14,.int .i64 x.hitem,.int .i64 j.v16,.int .i64 x.hstate,.int .i64 j.v18,.int .i64 j.v19,.bool x.gone,.int .i64 x.outcome]))
    subst hA
    have HC:=hide (J4 h m x j wr.drew ((HC0.out.d.grow hS.out.b).grow (Below.refl _ wr).drew) HK.out)
    have HJ:=hide (hoI.more (show w.heap.size≤wr.heap.size from hS.out.b.size))
    have HLM:=hide (fun W (hW:Below wr.heap.size wr W)=>FQ (hS.out.mo.below hW al))
    have HLT:=hide hlt
    clear hc hx ho1 ho2 hoI
    have hkI:(k:Int)<(l.length:Int):=by omega
    cases hcb:Ah m x
    · rw[hcb] at HC
      have HPS:=hide (show BJ m l (k+1)=BJ m l k by rw[D8 m l hlt,HX.out,hcb];simp)
      have HPA:=hide (show AX m l (k+1)=AX m l k by rw[Cz m l hlt,HX.out,DI,hcb];simp)
      go_wp2_with fail
      refine wp_region_held_drew (S:=fun W=>Below wr.heap.size wr W) (by kernel_rfl) (Below.refl _ wr).drew (fun hHeld=>?_)
      refine wpAnyH_take (i:=0) (oi:=_) (v:=_) rfl (by kernel_rfl) (by kernel_rfl) (by kernel_rfl) (fun _ _ _ h=>h) (yieldsIf_load_mid (by rfl) 29 _ rfl w.heap.size 0 rfl [.slice h.s m.sT.length h.sc,.slice h.f m.fT.length h.fc,.slice h.r m.rT.length h.rc,.slice h.m m.mT.length h.mc,.slice h.l m.lT.length h.lc,.slice h.i m.iT.length h.ic,.int .i64 m.dT,.int .i64 m.oT,.int .i64 m.vT,.int .i64 m.aT,.slice h.u m.uT.length h.uc] _ (fun W hW=>HLM.out W hW) Tryz.underlying29 rfl FY) hHeld ?_
      simp only[Act.put,List.getElem_toArray,List.getElem_cons_zero,List.setIfInBounds_toArray,List.set_cons_zero,List.set_cons_succ]
      refine wpAnyH_take (i:=1) (oi:=_) (v:=?_) rfl (by kernel_rfl) (by kernel_rfl) (by kernel_rfl) (fun _ _ _ h=>h) (Or.inl ⟨by rfl,?_⟩) hHeld ?_
      rotate_left
      · intro W hW;go_simp;with_reducible rfl
      simp only[Act.put,List.getElem_toArray,List.getElem_cons_succ,List.getElem_cons_zero,List.setIfInBounds_toArray,List.set_cons_zero,List.set_cons_succ]
      refine wpAnyH_take (i:=2) (oi:=_) (v:=?_) rfl (by kernel_rfl) (by kernel_rfl) (by kernel_rfl) (fun _ _ _ h=>h) (Or.inl ⟨by rfl,?_⟩) hHeld ?_
      rotate_left
      · intro W hW;go_simp;with_reducible rfl
      simp only[Act.put,List.getElem_toArray,List.getElem_cons_succ,List.getElem_cons_zero,List.setIfInBounds_toArray,List.set_cons_zero,List.set_cons_succ]
      refine wpAnyH_take (i:=3) (oi:=_) (v:=?_) rfl (by kernel_rfl) (by kernel_rfl) (by kernel_rfl) (fun _ _ _ h=>h) (Or.inl ⟨by rfl,?_⟩) hHeld ?_
      rotate_left
      · intro W hW;go_simp;with_reducible rfl
      simp only[Act.put,List.getElem_toArray,List.getElem_cons_succ,List.getElem_cons_zero,List.setIfInBounds_toArray,List.set_cons_zero,List.set_cons_succ]
      refine wpAnyH_take (i:=4) (oi:=_) (v:=_) rfl (by kernel_rfl) (by kernel_rfl) (by kernel_rfl) (fun _ _ _ h=>h) (yieldsIf_load_mid (by rfl) 85 _ rfl b (off+k*22) rfl [.int .i64 x.kind,.int .i64 x.mach,.int .i64 j.v2,.int .i64 j.v3,.int .i64 x.group,.int .i64 j.v5,.string j.v6,.int .i64 j.v7,.int .i64 j.v8,.int .i64 j.v9,.bool j.v10,.int .i64 j.v11,.slice j.A x.old.length j.c,.slice j.A13 j.n13 j.c13,.slice j.A14 j.n14 j.c14,.int .i64 x.hitem,.int .i64 j.v16,.int .i64 x.hstate,.int .i64 j.v18,.int .i64 j.v19,.bool x.gone,.int .i64 x.outcome] _ (fun W hW=>HCR.out W hW) Tryz.underlying85 rfl Ck) hHeld ?_
      simp only[Act.put,List.getElem_toArray,List.getElem_cons_succ,List.getElem_cons_zero,List.setIfInBounds_toArray,List.set_cons_zero,List.set_cons_succ]
      refine wpAnyH_ready (rs:=[5]) (by kernel_rfl) (by simp) ?_
      refine AllReadyH.cons rfl (fun K hK=>?_) AllReadyH.nil
      go_simp
      go_at_call 82
      refine HC.out.mono ?_
      rintro e w2 ⟨rfl,hb2⟩
      have hb2':Below wr.heap.size wr w2:=⟨hb2.os,hb2.tape,hb2.output,hb2.size,hb2.block⟩
      have HB2:=hide hb2'
      clear hb2
      dsimp only
      refine hK.out _ _ hb2' (fun hHeld=>?_)
      refine wpAnyH_take (i:=6) (oi:=_) (v:=?_) rfl (by kernel_rfl) (by kernel_rfl) (by kernel_rfl) (fun _ _ _ h=>h) (Or.inl ⟨by rfl,?_⟩) hHeld ?_
      rotate_left
      · intro W hW;go_simp;with_reducible rfl
      simp only[Act.put,List.getElem_toArray,List.getElem_cons_succ,List.getElem_cons_zero,List.setIfInBounds_toArray,List.set_cons_zero,List.set_cons_succ]
      refine wpAnyH_done (by kernel_rfl) ?_ _
      clear hK hb2'
      go_wp2_with fail
      go_roundw
      case rel=>exact⟨k+1,by have:=HLT.out;omega,by go_num,by rw[HPS.out,HPA.out];exact hS.out.grow HB2.out⟩
      case measure=>have:=HLT.out;simp[intOf];omega
    · rw [hcb] at HC
      have HPA:=hide (show AX m l (k+1)=Ac m (AX m l k) x by rw[Cz m l hlt,DI,HX.out,if_pos hcb])
      have HBT:=hide (show BJ m l (k+1)=BJ m l k++Cu m (AX m l (k+1)) k m.uT.length by rw[D8 m l hlt,HX.out,if_pos hcb])
      go_wp2_with fail
      refine wp_region_held_drew (S:=fun W=>Below wr.heap.size wr W) (by kernel_rfl) (Below.refl _ wr).drew (fun hHeld=>?_)
      refine wpAnyH_take (i:=0) (oi:=_) (v:=_) rfl (by kernel_rfl) (by kernel_rfl) (by kernel_rfl) (fun _ _ _ h=>h) (yieldsIf_load_mid (by rfl) 29 _ rfl w.heap.size 0 rfl [.slice h.s m.sT.length h.sc,.slice h.f m.fT.length h.fc,.slice h.r m.rT.length h.rc,.slice h.m m.mT.length h.mc,.slice h.l m.lT.length h.lc,.slice h.i m.iT.length h.ic,.int .i64 m.dT,.int .i64 m.oT,.int .i64 m.vT,.int .i64 m.aT,.slice h.u m.uT.length h.uc] _ (fun W hW=>HLM.out W hW) Tryz.underlying29 rfl FY) hHeld ?_
      simp only[Act.put,List.getElem_toArray,List.getElem_cons_zero,List.setIfInBounds_toArray,List.set_cons_zero,List.set_cons_succ]
      refine wpAnyH_take (i:=1) (oi:=_) (v:=?_) rfl (by kernel_rfl) (by kernel_rfl) (by kernel_rfl) (fun _ _ _ h=>h) (Or.inl ⟨by rfl,?_⟩) hHeld ?_
      rotate_left
      · intro W hW;go_simp;with_reducible rfl
      simp only[Act.put,List.getElem_toArray,List.getElem_cons_succ,List.getElem_cons_zero,List.setIfInBounds_toArray,List.set_cons_zero,List.set_cons_succ]
      refine wpAnyH_take (i:=2) (oi:=_) (v:=?_) rfl (by kernel_rfl) (by kernel_rfl) (by kernel_rfl) (fun _ _ _ h=>h) (Or.inl ⟨by rfl,?_⟩) hHeld ?_
      rotate_left
      · intro W hW;go_simp;with_reducible rfl
      simp only[Act.put,List.getElem_toArray,List.getElem_cons_succ,List.getElem_cons_zero,List.setIfInBounds_toArray,List.set_cons_zero,List.set_cons_succ]
      refine wpAnyH_take (i:=3) (oi:=_) (v:=?_) rfl (by kernel_rfl) (by kernel_rfl) (by kernel_rfl) (fun _ _ _ h=>h) (Or.inl ⟨by rfl,?_⟩) hHeld ?_
      rotate_left
      · intro W hW;go_simp;with_reducible rfl
      simp only[Act.put,List.getElem_toArray,List.getElem_cons_succ,List.getElem_cons_zero,List.setIfInBounds_toArray,List.set_cons_zero,List.set_cons_succ]
      refine wpAnyH_take (i:=4) (oi:=_) (v:=_) rfl (by kernel_rfl) (by kernel_rfl) (by kernel_rfl) (fun _ _ _ h=>h) (yieldsIf_load_mid (by rfl) 85 _ rfl b (off+k*22) rfl [.int .i64 x.kind,.int .i64 x.mach,.int .i64 j.v2,.int .i64 j.v3,.int .i64 x.group,.int .i64 j.v5,.string j.v6,.int .i64 j.v7,.int .i64 j.v8,.int .i64 j.v9,.bool j.v10,.int .i64 j.v11,.slice j.A x.old.length j.c,.slice j.A13 j.n13 j.c13,.slice j.A14 j.n14 j.c14,.int .i64 x.hitem,.int .i64 j.v16,.int .i64 x.hstate,.int .i64 j.v18,.int .i64 j.v19,.bool x.gone,.int .i64 x.outcome] _ (fun W hW=>HCR.out W hW) Tryz.underlying85 rfl Ck) hHeld ?_
      simp only[Act.put,List.getElem_toArray,List.getElem_cons_succ,List.getElem_cons_zero,List.setIfInBounds_toArray,List.set_cons_zero,List.set_cons_succ]
      refine wpAnyH_ready (rs:=[5]) (by kernel_rfl) (by simp) ?_
      refine AllReadyH.cons rfl (fun K hK=>?_) AllReadyH.nil
      go_simp
      go_at_call 82
      refine HC.out.mono ?_
      rintro e w2 ⟨rfl,hb2⟩
      have hb2':Below wr.heap.size wr w2:=⟨hb2.os,hb2.tape,hb2.output,hb2.size,hb2.block⟩
      have HB2:=hide hb2'
      clear hb2
      dsimp only
      refine hK.out _ _ hb2' (fun hHeld=>?_)
      refine wpAnyH_take (i:=6) (oi:=_) (v:=?_) rfl (by kernel_rfl) (by kernel_rfl) (by kernel_rfl) (fun _ _ _ h=>h) (Or.inl ⟨by rfl,?_⟩) hHeld ?_
      rotate_left
      · intro W hW;go_simp;with_reducible rfl
      simp only[Act.put,List.getElem_toArray,List.getElem_cons_succ,List.getElem_cons_zero,List.setIfInBounds_toArray,List.set_cons_zero,List.set_cons_succ]
      refine wpAnyH_done (by kernel_rfl) ?_ _
      clear hK hb2'
      have HS2:=hide (hS.out.grow HB2.out)
      obtain⟨A8,c8,hpb,hp8⟩:=HS2.out.pl
      have HPB:=hide hpb
      have p0:=hpb.cell 0
      have p0l:=hpb.lt
      simp only[List.getElem?_toArray,List.getElem?_cons_zero] at p0
      have p0d:w2.drew.cell? ⟨w1.heap.size,0,none⟩=some (.slice A8 (AX m l k).length c8):=p0
      have HA:=hide (LD h m x j A8 c8 (AX m l k) w2.drew ((HC0.out.d.grow HS2.out.b).grow (Below.refl _ w2).drew) HC0.out.f.cm HC0.out.il2 (by omega) ((HJ.out.below HB2.out).more HB2.out.size) (hp8.below (Below.refl _ w2).drew) ((HR.out k).mono (show 100+11*k≤800 by have:=HLT.out;omega)) hcb)
      clear hp8 hpb
      go_wp2_with fail
      refine wp_region_held_drew (S:=fun W=>Below w.heap.size w W∧AB W w.heap.size 29 #[.slice h.s m.sT.length h.sc,.slice h.f m.fT.length h.fc,.slice h.r m.rT.length h.rc,.slice h.m m.mT.length h.mc,.slice h.l m.lT.length h.lc,.slice h.i m.iT.length h.ic,.int .i64 m.dT,.int .i64 m.oT,.int .i64 m.vT,.int .i64 m.aT,.slice h.u m.uT.length h.uc]) (by kernel_rfl) (⟨HS2.out.b.drew,HS2.out.mo⟩) (fun hHeld=>?_)
      refine wpAnyH_take (i:=0) (oi:=_) (v:=_) rfl (by kernel_rfl) (by kernel_rfl) (by kernel_rfl) (fun _ _ _ h=>h) (yieldsIf_load_mid (by rfl) 29 _ rfl w.heap.size 0 rfl [.slice h.s m.sT.length h.sc,.slice h.f m.fT.length h.fc,.slice h.r m.rT.length h.rc,.slice h.m m.mT.length h.mc,.slice h.l m.lT.length h.lc,.slice h.i m.iT.length h.ic,.int .i64 m.dT,.int .i64 m.oT,.int .i64 m.vT,.int .i64 m.aT,.slice h.u m.uT.length h.uc] _ (fun W hW=>FQ hW.2) Tryz.underlying29 rfl FY) hHeld ?_
      simp only[Act.put,List.getElem_toArray,List.getElem_cons_zero,List.setIfInBounds_toArray,List.set_cons_zero,List.set_cons_succ]
      refine wpAnyH_take (i:=2) (oi:=_) (v:=?_) rfl (by kernel_rfl) (by kernel_rfl) (by kernel_rfl) (fun _ _ _ h=>h) (Or.inl ⟨by rfl,?_⟩) hHeld ?_
      rotate_left
      · intro W hW;go_simp;with_reducible rfl
      simp only[Act.put,List.getElem_toArray,List.getElem_cons_succ,List.getElem_cons_zero,List.setIfInBounds_toArray,List.set_cons_zero,List.set_cons_succ]
      refine wpAnyH_take (i:=3) (oi:=_) (v:=?_) rfl (by kernel_rfl) (by kernel_rfl) (by kernel_rfl) (fun _ _ _ h=>h) (Or.inl ⟨by rfl,?_⟩) hHeld ?_
      rotate_left
      · intro W hW;go_simp;with_reducible rfl
      simp only[Act.put,List.getElem_toArray,List.getElem_cons_succ,List.getElem_cons_zero,List.setIfInBounds_toArray,List.set_cons_zero,List.set_cons_succ]
      refine wpAnyH_take (i:=4) (oi:=_) (v:=?_) rfl (by kernel_rfl) (by kernel_rfl) (by kernel_rfl) (fun _ _ _ h=>h) (Or.inl ⟨by rfl,?_⟩) hHeld ?_
      rotate_left
      · intro W hW;go_simp;with_reducible rfl
      simp only[Act.put,List.getElem_toArray,List.getElem_cons_succ,List.getElem_cons_zero,List.setIfInBounds_toArray,List.set_cons_zero,List.set_cons_succ]
      refine wpAnyH_take (i:=5) (oi:=_) (v:=_) rfl (by kernel_rfl) (by kernel_rfl) (by kernel_rfl) (fun _ _ _ h=>h) (yieldsIf_load_mid (by rfl) 85 _ rfl b (off+k*22) rfl [.int .i64 x.kind,.int .i64 x.mach,.int .i64 j.v2,.int .i64 j.v3,.int .i64 x.group,.int .i64 j.v5,.string j.v6,.int .i64 j.v7,.int .i64 j.v8,.int .i64 j.v9,.bool j.v10,.int .i64 j.v11,.slice j.A x.old.length j.c,.slice j.A13 j.n13 j.c13,.slice j.A14 j.n14 j.c14,.int .i64 x.hitem,.int .i64 j.v16,.int .i64 x.hstate,.int .i64 j.v18,.int .i64 j.v19,.bool x.gone,.int .i64 x.outcome] _ (fun W hW=>HCW.out W hW.1) Tryz.underlying85 rfl Ck) hHeld ?_
      simp only[Act.put,List.getElem_toArray,List.getElem_cons_succ,List.getElem_cons_zero,List.setIfInBounds_toArray,List.set_cons_zero,List.set_cons_succ]
      refine wpAnyH_ready (rs:=[1]) (by kernel_rfl) (by simp) ?_
      refine AllReadyH.cons rfl (fun K hK=>?_) AllReadyH.nil
      go_simp
      refine hK.out _ _ hHeld (fun hHeld=>?_)
      clear hK K
      refine wpAnyH_ready (rs:=[6]) (by kernel_rfl) (by simp) ?_
      refine AllReadyH.cons rfl (fun K hK=>?_) AllReadyH.nil
      go_simp
      go_at_call 83
      refine HA.out.mono ?_
      rintro e w4 ⟨A4,c4,rfl,hp4,hb4⟩
      have hb4':Below w2.heap.size w2 w4:=⟨hb4.os,hb4.tape,hb4.output,hb4.size,hb4.block⟩
      have HB4:=hide hb4'
      have HP4:=hide hp4
      have p4:=HPB.out.below hb4' HPB.out.lt
      have pf:=p4.frozen 0
      have pc:=p4.cell 0
      simp only[List.getElem?_toArray,List.getElem?_cons_zero] at pc
      have pl:=p4.lt
      dsimp only
      refine hK.out _ _ (⟨(HS2.out.grow hb4').b,(HS2.out.grow hb4').mo⟩) (fun hHeld=>?_)
      clear hK hHeld K hb4 hp4
      refine wpAnyH_ready (rs:=[7]) (by kernel_rfl) (by simp) ?_
      refine AllReadyH.cons rfl (fun K hK=>?_) AllReadyH.nil
      go_simp
      have hS5:=(HS2.out.grow HB4.out).turned HP4.out HW1.out
      refine hK.out _ _ ⟨hS5.b,hS5.mo⟩ (fun hHeld=>?_)
      refine wpAnyH_done (by kernel_rfl) ?_ _
      clear hK hHeld
      rw[← HPA.out] at hS5 ⊢
      have HS5:=hide hS5
      clear hS5 pf pl pc p4 p0 p0d p0l a0 a1 a2 a3 a4 a5 a6 a7 a8 a9 a10 al
      obtain⟨q,hq⟩:∃ q,q=AX m l (k+1):=⟨_,rfl⟩
      have HQR:=hide (show Room (100+11*(k+1)) q by rw[hq];exact HR.out (k+1))
      obtain⟨P0,hP0⟩:∃ P0,P0=BJ m l k:=⟨_,rfl⟩
      have hP0l:P0.length≤6000:=by
       rw[hP0]
       exact Nat.le_trans (Dp m l k) (Nat.le_trans (Nat.mul_le_mul (Nat.le_trans hk hl) hr100) (by decide))
      have HQ:=hide hq
      have HP0:=hide hP0
      rw[← hq] at HS5 HBT ⊢
      rw[← hP0] at HS5 HBT
      clear hq hP0
      obtain⟨w5,hw5⟩:∃ w5,w5=w4.setCell ⟨w1.heap.size,0,none⟩ (.slice A4 q.length c4):=⟨_,rfl⟩
      rw[← hw5] at HS5 ⊢
      clear hw5
      go_wp2_with fail
      go_loopw [5,8] (fun v i wr=>∃ n:Nat,n≤m.uT.length∧i=.int .i64 n∧IP w h m w1.heap.size q v (P0++Cu m q k n) wr) (fun _ i _=>m.uT.length - (intOf i).toNat)
      case atStart=>exact⟨0,Nat.zero_le _,rfl,by rw[JW,List.append_nil];exact HS5.out⟩
      case round =>
       clear HS5 HS2 hS
       obtain⟨n,hn,rfl,hS⟩:=hrel
       have HS:=hide hS
       by_cases hnl:n<m.uT.length
       · obtain ⟨bu,ou,A2,c2,hA,hb0,x0,x1,x2,x3,x4,x5,x6,_,_,gI⟩:=(HC0.out.d.dU.below hS.b).rule hnl
         obtain⟨x,hx⟩:∃ x,x=m.uT[n]:=⟨_,rfl⟩
         have hxm:x∈m.uT:=by rw[hx];exact List.getElem_mem hnl
         rw[← hx] at x0 x1 x2 x3 x4 x5 x6 gI
         obtain⟨Ap,cp,hpb,hpt⟩:=hS.pl
         have hmo:=hS.mo
         rw[hA] at hmo
         have HW:=hide (show Cs w #[.slice h.s m.sT.length h.sc,.slice h.f m.fT.length h.fc,.slice h.r m.rT.length h.rc,.slice h.m m.mT.length h.mc,.slice h.l m.lT.length h.lc,.slice h.i m.iT.length h.ic,.int .i64 m.dT,.int .i64 m.oT,.int .i64 m.vT,.int .i64 m.aT,.slice (some ⟨bu,ou,none⟩) m.uT.length h.uc] bu (ou+n*7) #[.int .i64 x.kind,.int .i64 x.item,.int .i64 x.other,.int .i64 x.n,.int .i64 x.by_,.bool x.always,.slice A2 x.machines.length c2] w1.heap.size #[.slice Ap q.length cp] wr wr from
          ⟨hmo,fun jj u hu=>by
            rcases jj with _|_|_|_|_|_|_|jj
            · obtain rfl:_=u:=Option.some.inj hu;exact x0
            · obtain rfl:_=u:=Option.some.inj hu;exact x1
            · obtain rfl:_=u:=Option.some.inj hu;exact x2
            · obtain rfl:_=u:=Option.some.inj hu;exact x3
            · obtain rfl:_=u:=Option.some.inj hu;exact x4
            · obtain rfl:_=u:=Option.some.inj hu;exact x5
            · obtain rfl:_=u:=Option.some.inj hu;exact x6
            · simp at hu,hb0,hpb,hS.b,Below.refl _ _⟩)
         have HBS:=hide (JV m q k hnl)
         rw[← hx] at HBS
         have HRC:=hide (fun W (hW:Below w.heap.size w W) (hI:Ints W W.heap.size A2 x.machines)=>(⟨HC0.out.d.grow hW,HC0.out.f,hI,HC0.out.il x hxm,HC0.out.il2,HC0.out.on⟩:En W h m x A2))
         have HGI:=hide (show Ints wr wr.heap.size A2 x.machines from gI.more hS.b.size)
         have HWA:=hide (fun W (hW:Below w.heap.size w W) (hg:Below wr.heap.size wr W)=>Oj h m x A2 c2 W (HRC.out W hW (HGI.out.grow hg)) (RG (HRO.out x hxm)))
         have HHO:=hide (fun W (hW:Below w.heap.size w W) (hg:Below wr.heap.size wr W)=>Jb h m HC0.out.f x A2 c2 Ap cp q W ⟨HC0.out.d.grow hW,HGI.out.grow hg,HC0.out.il x hxm,(hpt.below hg).pr,by have:=HQR.out.1;omega,by have:=HQR.out.unitsP x.item;omega,(HRC.out W hW (HGI.out.grow hg)).dm⟩)
         rw[hA] at HWA HHO ⊢
         obtain⟨⟨a0,a1,a2,a3,a4,a5,a6,a7,a8,a9,a10⟩,⟨r0,r1,r2,r3,r4,r5,r6⟩,p0⟩:=HW.out.cells
         have al:=HW.out.m.lt
         have bul:=Nat.lt_of_lt_of_le hb0 hS.b.size
         have pl:=HW.out.p.lt
         have hnI:(n:Int)<(m.uT.length:Int):=by omega
         have hn0:(0:Int)≤(n:Int):=by omega
         have HLN:=hide hnl
         clear hS hpb hpt hmo x0 x1 x2 x3 x4 x5 x6 gI hA hb0 hx
         cases hw:BB m x
         · have HN:=hide (JG (m:=m) (q:=q) (i:=k) (k:=n) (r:=x) (.inl hw))
           go_wp2_with fail
           refine wp_region_held_drew (S:=(fun W=>((W.cell? ⟨w.heap.size,0,none⟩=some (.slice h.s m.sT.length h.sc)∧W.cell? ⟨w.heap.size,1,none⟩=some (.slice h.f m.fT.length h.fc)∧W.cell? ⟨w.heap.size,2,none⟩=some (.slice h.r m.rT.length h.rc)∧W.cell? ⟨w.heap.size,3,none⟩=some (.slice h.m m.mT.length h.mc)∧W.cell? ⟨w.heap.size,4,none⟩=some (.slice h.l m.lT.length h.lc)∧W.cell? ⟨w.heap.size,5,none⟩=some (.slice h.i m.iT.length h.ic)∧W.cell? ⟨w.heap.size,6,none⟩=some (.int .i64 m.dT)∧W.cell? ⟨w.heap.size,7,none⟩=some (.int .i64 m.oT)∧W.cell? ⟨w.heap.size,8,none⟩=some (.int .i64 m.vT)∧W.cell? ⟨w.heap.size,9,none⟩=some (.int .i64 m.aT)∧W.cell? ⟨w.heap.size,10,none⟩=some (.slice (some ⟨bu,ou,none⟩) m.uT.length h.uc))∧(W.cell? ⟨bu,ou+n*7,none⟩=some (.int .i64 x.kind)∧W.cell? ⟨bu,ou+n*7+1,none⟩=some (.int .i64 x.item)∧W.cell? ⟨bu,ou+n*7+2,none⟩=some (.int .i64 x.other)∧W.cell? ⟨bu,ou+n*7+3,none⟩=some (.int .i64 x.n)∧W.cell? ⟨bu,ou+n*7+4,none⟩=some (.int .i64 x.by_)∧W.cell? ⟨bu,ou+n*7+5,none⟩=some (.bool x.always)∧W.cell? ⟨bu,ou+n*7+6,none⟩=some (.slice A2 x.machines.length c2))∧W.cell? ⟨w1.heap.size,0,none⟩=some (.slice Ap q.length cp))∧Cs w #[.slice h.s m.sT.length h.sc,.slice h.f m.fT.length h.fc,.slice h.r m.rT.length h.rc,.slice h.m m.mT.length h.mc,.slice h.l m.lT.length h.lc,.slice h.i m.iT.length h.ic,.int .i64 m.dT,.int .i64 m.oT,.int .i64 m.vT,.int .i64 m.aT,.slice (some ⟨bu,ou,none⟩) m.uT.length h.uc] bu (ou+n*7) #[.int .i64 x.kind,.int .i64 x.item,.int .i64 x.other,.int .i64 x.n,.int .i64 x.by_,.bool x.always,.slice A2 x.machines.length c2] w1.heap.size #[.slice Ap q.length cp] wr W)) (by kernel_rfl) (⟨Cs.cells HW.out.drew,HW.out.drew⟩) (fun hHeld=>?_)
           refine wpAnyH_take (i:=0) (oi:=_) (v:=?_) rfl (by kernel_rfl) (by kernel_rfl) (by kernel_rfl) (fun _ _ _ h=>h) (Or.inl ⟨by rfl,?_⟩) hHeld ?_
           rotate_left
           · intro W hSw;(try dsimp only at hSw);go_simp;try with_reducible rfl
           simp only[Act.put,List.getElem_toArray,List.getElem_cons_zero,List.setIfInBounds_toArray,List.set_cons_zero,List.set_cons_succ]
           refine wpAnyH_take (i:=1) (oi:=_) (v:=?_) rfl (by kernel_rfl) (by kernel_rfl) (by kernel_rfl) (fun _ _ _ h=>h) (Or.inl ⟨by rfl,?_⟩) hHeld ?_
           rotate_left
           · intro W hSw;(try dsimp only at hSw);go_simp;try with_reducible rfl
           simp only[Act.put,List.getElem_toArray,List.getElem_cons_succ,List.getElem_cons_zero,List.setIfInBounds_toArray,List.set_cons_zero,List.set_cons_succ]
           refine wpAnyH_take (i:=2) (oi:=_) (v:=?_) rfl (by kernel_rfl) (by kernel_rfl) (by kernel_rfl) (fun _ _ _ h=>h) (Or.inl ⟨by rfl,?_⟩) hHeld ?_
           rotate_left
           · intro W hSw;(try dsimp only at hSw);go_simp;try with_reducible rfl
           simp only[Act.put,List.getElem_toArray,List.getElem_cons_succ,List.getElem_cons_zero,List.setIfInBounds_toArray,List.set_cons_zero,List.set_cons_succ]
           refine wpAnyH_take (i:=3) (oi:=_) (v:=?_) rfl (by kernel_rfl) (by kernel_rfl) (by kernel_rfl) (fun _ _ _ h=>h) (Or.inl ⟨by rfl,?_⟩) hHeld ?_
           rotate_left
           · intro W hSw;(try dsimp only at hSw);go_simp;try with_reducible rfl
           simp only[Act.put,List.getElem_toArray,List.getElem_cons_succ,List.getElem_cons_zero,List.setIfInBounds_toArray,List.set_cons_zero,List.set_cons_succ]
           refine wpAnyH_take (i:=4) (oi:=_) (v:=?_) rfl (by kernel_rfl) (by kernel_rfl) (by kernel_rfl) (fun _ _ _ h=>h) (Or.inl ⟨by rfl,?_⟩) hHeld ?_
           rotate_left
           · intro W hSw;(try dsimp only at hSw);go_simp;try with_reducible rfl
           simp only[Act.put,List.getElem_toArray,List.getElem_cons_succ,List.getElem_cons_zero,List.setIfInBounds_toArray,List.set_cons_zero,List.set_cons_succ]
           refine wpAnyH_take (i:=5) (oi:=_) (v:=?_) rfl (by kernel_rfl) (by kernel_rfl) (by kernel_rfl) (fun _ _ _ h=>h) (Or.inl ⟨by rfl,?_⟩) hHeld ?_
           rotate_left
           · intro W hSw;(try dsimp only at hSw);go_simp;try with_reducible rfl
           simp only[Act.put,List.getElem_toArray,List.getElem_cons_succ,List.getElem_cons_zero,List.setIfInBounds_toArray,List.set_cons_zero,List.set_cons_succ]
           refine wpAnyH_ready (rs:=[6]) (by kernel_rfl) (by simp) ?_
           refine AllReadyH.cons rfl (fun K hK=>?_) AllReadyH.nil
           go_simp
           (with_reducible refine(HWA.out _ HW.out.drew.b HW.out.drew.g).mono ?_);rintro e w7 ⟨he7,hb7⟩;rw[hw] at he7;subst he7;have c7:=Cs.grow HW.out.drew hb7
           dsimp only
           refine hK.out _ _ (⟨Cs.cells c7,c7⟩) (fun hHeld=>?_)
           clear hK K
           refine wpAnyH_take (i:=7) (oi:=_) (v:=?_) rfl (by kernel_rfl) (by kernel_rfl) (by kernel_rfl) (fun _ _ _ h=>h) (Or.inl ⟨by rfl,?_⟩) hHeld ?_
           rotate_left
           · intro W hSw;(try dsimp only at hSw);go_simp;try with_reducible rfl
           simp only[Act.put,List.getElem_toArray,List.getElem_cons_succ,List.getElem_cons_zero,List.setIfInBounds_toArray,List.set_cons_zero,List.set_cons_succ]
           refine wpAnyH_take (i:=8) (oi:=_) (v:=_) rfl (by kernel_rfl) (by kernel_rfl) (by kernel_rfl) (fun _ _ _ h=>h) (Or.inr ⟨by rfl,rfl⟩) hHeld ?_
           simp only[Act.put,List.getElem_toArray,List.getElem_cons_succ,List.getElem_cons_zero,List.setIfInBounds_toArray,List.set_cons_zero,List.set_cons_succ]
           refine wpAnyH_take (i:=9) (oi:=_) (v:=_) rfl (by kernel_rfl) (by kernel_rfl) (by kernel_rfl) (fun _ _ _ h=>h) (Or.inr ⟨by rfl,rfl⟩) hHeld ?_
           simp only[Act.put,List.getElem_toArray,List.getElem_cons_succ,List.getElem_cons_zero,List.setIfInBounds_toArray,List.set_cons_zero,List.set_cons_succ]
           refine wpAnyH_take (i:=10) (oi:=_) (v:=_) rfl (by kernel_rfl) (by kernel_rfl) (by kernel_rfl) (fun _ _ _ h=>h) (Or.inr ⟨by rfl,rfl⟩) hHeld ?_
           simp only[Act.put,List.getElem_toArray,List.getElem_cons_succ,List.getElem_cons_zero,List.setIfInBounds_toArray,List.set_cons_zero,List.set_cons_succ]
           refine wpAnyH_take (i:=11) (oi:=_) (v:=_) rfl (by kernel_rfl) (by kernel_rfl) (by kernel_rfl) (fun _ _ _ h=>h) (Or.inr ⟨by rfl,rfl⟩) hHeld ?_
           simp only[Act.put,List.getElem_toArray,List.getElem_cons_succ,List.getElem_cons_zero,List.setIfInBounds_toArray,List.set_cons_zero,List.set_cons_succ]
           refine wpAnyH_take (i:=12) (oi:=_) (v:=_) rfl (by kernel_rfl) (by kernel_rfl) (by kernel_rfl) (fun _ _ _ h=>h) (Or.inr ⟨by rfl,rfl⟩) hHeld ?_
           simp only[Act.put,List.getElem_toArray,List.getElem_cons_succ,List.getElem_cons_zero,List.setIfInBounds_toArray,List.set_cons_zero,List.set_cons_succ]
           refine wpAnyH_take (i:=13) (oi:=_) (v:=_) rfl (by kernel_rfl) (by kernel_rfl) (by kernel_rfl) (fun _ _ _ h=>h) (Or.inr ⟨by rfl,rfl⟩) hHeld ?_
           simp only[Act.put,List.getElem_toArray,List.getElem_cons_succ,List.getElem_cons_zero,List.setIfInBounds_toArray,List.set_cons_zero,List.set_cons_succ]
           refine wpAnyH_take (i:=14) (oi:=_) (v:=_) rfl (by kernel_rfl) (by kernel_rfl) (by kernel_rfl) (fun _ _ _ h=>h) (Or.inr ⟨by rfl,rfl⟩) hHeld ?_
           simp only[Act.put,List.getElem_toArray,List.getElem_cons_succ,List.getElem_cons_zero,List.setIfInBounds_toArray,List.set_cons_zero,List.set_cons_succ]
           refine wpAnyH_take (i:=15) (oi:=_) (v:=_) rfl (by kernel_rfl) (by kernel_rfl) (by kernel_rfl) (fun _ _ _ h=>h) (Or.inr ⟨by rfl,rfl⟩) hHeld ?_
           simp only[Act.put,List.getElem_toArray,List.getElem_cons_succ,List.getElem_cons_zero,List.setIfInBounds_toArray,List.set_cons_zero,List.set_cons_succ]
           refine wpAnyH_take (i:=16) (oi:=_) (v:=_) rfl (by kernel_rfl) (by kernel_rfl) (by kernel_rfl) (fun _ _ _ h=>h) (Or.inr ⟨by rfl,rfl⟩) hHeld ?_
           simp only[Act.put,List.getElem_toArray,List.getElem_cons_succ,List.getElem_cons_zero,List.setIfInBounds_toArray,List.set_cons_zero,List.set_cons_succ]
           refine wpAnyH_take (i:=17) (oi:=_) (v:=?_) rfl (by kernel_rfl) (by kernel_rfl) (by kernel_rfl) (fun _ _ _ h=>h) (Or.inl ⟨by rfl,?_⟩) hHeld ?_
           rotate_left
           · intro W hSw;(try dsimp only at hSw);go_simp;try with_reducible rfl
           simp only[Act.put,List.getElem_toArray,List.getElem_cons_succ,List.getElem_cons_zero,List.setIfInBounds_toArray,List.set_cons_zero,List.set_cons_succ]
           refine wpAnyH_done (by kernel_rfl) ?_ _
           go_wp2_with fail
           go_roundw
           case rel=>exact⟨n+1,HLN.out,by go_num,by rw[HBS.out,HN.out,List.append_nil];exact HS.out.grow c7.g⟩
           case measure=>have:=HLN.out;simp[intOf];omega
         · cases hh:CB m x q
           · have HN:=hide (show GG m q k n x=[((k:Int),x.kind,(n:Int)+1,x.item)] by simp[GG,hw,hh])
             go_wp2_with fail
             go_region_held3 (fun W=>((W.cell? ⟨w.heap.size,0,none⟩=some (.slice h.s m.sT.length h.sc)∧W.cell? ⟨w.heap.size,1,none⟩=some (.slice h.f m.fT.length h.fc)∧W.cell? ⟨w.heap.size,2,none⟩=some (.slice h.r m.rT.length h.rc)∧W.cell? ⟨w.heap.size,3,none⟩=some (.slice h.m m.mT.length h.mc)∧W.cell? ⟨w.heap.size,4,none⟩=some (.slice h.l m.lT.length h.lc)∧W.cell? ⟨w.heap.size,5,none⟩=some (.slice h.i m.iT.length h.ic)∧W.cell? ⟨w.heap.size,6,none⟩=some (.int .i64 m.dT)∧W.cell? ⟨w.heap.size,7,none⟩=some (.int .i64 m.oT)∧W.cell? ⟨w.heap.size,8,none⟩=some (.int .i64 m.vT)∧W.cell? ⟨w.heap.size,9,none⟩=some (.int .i64 m.aT)∧W.cell? ⟨w.heap.size,10,none⟩=some (.slice (some ⟨bu,ou,none⟩) m.uT.length h.uc))∧(W.cell? ⟨bu,ou+n*7,none⟩=some (.int .i64 x.kind)∧W.cell? ⟨bu,ou+n*7+1,none⟩=some (.int .i64 x.item)∧W.cell? ⟨bu,ou+n*7+2,none⟩=some (.int .i64 x.other)∧W.cell? ⟨bu,ou+n*7+3,none⟩=some (.int .i64 x.n)∧W.cell? ⟨bu,ou+n*7+4,none⟩=some (.int .i64 x.by_)∧W.cell? ⟨bu,ou+n*7+5,none⟩=some (.bool x.always)∧W.cell? ⟨bu,ou+n*7+6,none⟩=some (.slice A2 x.machines.length c2))∧W.cell? ⟨w1.heap.size,0,none⟩=some (.slice Ap q.length cp))∧Cs w #[.slice h.s m.sT.length h.sc,.slice h.f m.fT.length h.fc,.slice h.r m.rT.length h.rc,.slice h.m m.mT.length h.mc,.slice h.l m.lT.length h.lc,.slice h.i m.iT.length h.ic,.int .i64 m.dT,.int .i64 m.oT,.int .i64 m.vT,.int .i64 m.aT,.slice (some ⟨bu,ou,none⟩) m.uT.length h.uc] bu (ou+n*7) #[.int .i64 x.kind,.int .i64 x.item,.int .i64 x.other,.int .i64 x.n,.int .i64 x.by_,.bool x.always,.slice A2 x.machines.length c2] w1.heap.size #[.slice Ap q.length cp] wr W)
                   ((with_reducible (first|(go_keep;done)|exact⟨Cs.cells HW.out.drew,HW.out.drew⟩|exact⟨Cs.cells c7,c7⟩|exact⟨Cs.cells c8,c8⟩|(have hH:=(by assumption:_∧Cs _ _ _ _ _ _ _ _ _);exact⟨Cs.cells (Cs.drew hH.2),Cs.drew hH.2⟩))))
                   ((first|(go_at_call 84;(with_reducible refine(HWA.out _ HW.out.drew.b HW.out.drew.g).mono ?_);rintro e w7 ⟨he7,hb7⟩;rw[hw] at he7;subst he7;have c7:=Cs.grow HW.out.drew hb7)|(go_at_call 85;(with_reducible refine(HHO.out _ c7.b c7.g).mono ?_);rintro e w8 ⟨he8,hb8⟩;rw[hh] at he8;subst he8;have c8:=Cs.grow c7 hb8)))
             obtain⟨L,hL⟩:∃ L,L=P0++Cu m q k n:=⟨_,rfl⟩
             have hbl2:=Fs m q k n
             have hll:L.length+1≤1000000:=by rw[hL,List.length_append];omega
             have hs8:=HS.out.grow c8.g
             rw[← hL] at hs8 
             have HL:=hide hL
             have HR9:=hide (Ul w8.drew ((k:Int),x.kind,(n:Int)+1,x.item))
             have hb9:Below w8.drew.heap.size w8.drew (w8.drew.alloc (.cells #[.int .i64 k,.int .i64 x.kind,.int .i64 ((n:Int)+1),.int .i64 x.item] 60)):=(Below.refl _ _).alloc (Nat.le_refl _) _
             have HC8:=hide c8.drew
             have HC9:=hide (c8.drew.grow hb9)
             have HS9:=hide (hs8.grow ((Below.refl _ _).drew.trans hb9))
             have hkk:(k:Int)≤60:=by omega
             have hwn1:IntKind.i64.wrap ((n:Int)+1)=(n:Int)+1:=by rw[IntKind.wrap_i64];omega
             obtain⟨⟨-,-,-,-,-,-,-,-,-,-,a10⟩,⟨r0,r1,-,-,-,-,-⟩,-⟩:=Cs.cells HC8.out
             obtain⟨⟨-,-,-,-,-,-,-,-,-,-,b10⟩,⟨t0,t1,-,-,-,-,-⟩,-⟩:=Cs.cells HC9.out
             have HA:=hide (And.intro a10 (And.intro r0 (And.intro r1 (And.intro HC8.out.m.lt (Nat.lt_of_lt_of_le HC8.out.lt HC8.out.b.size)))))
             have HB:=hide (And.intro b10 (And.intro t0 (And.intro t1 (And.intro HC9.out.m.lt (Nat.lt_of_lt_of_le HC9.out.lt HC9.out.b.size)))))
             clear hs8 hb9 c8 hb8 hb7 c7 hL a0 a1 a2 a3 a4 a5 a6 a7 a8 a9 a10 r0 r1 r2 r3 r4 r5 r6 b10 t0 t1 p0
             go_wp2_with fail
             refine wp_region_held_drew (S:=fun W=>W.cell? ⟨w.heap.size,10,none⟩=some (.slice (some ⟨bu,ou,none⟩) m.uT.length h.uc)∧W.cell? ⟨bu,ou+n*7,none⟩=some (.int .i64 x.kind)∧W.cell? ⟨bu,ou+n*7+1,none⟩=some (.int .i64 x.item)∧w.heap.size<W.heap.size∧bu<W.heap.size) (by kernel_rfl) HA.out (fun hHeld=>?_)
             refine wpAnyH_take (i:=0) (oi:=_) (v:=?_) rfl (by kernel_rfl) (by kernel_rfl) (by kernel_rfl) (fun _ _ _ h=>h) (Or.inl ⟨by rfl,?_⟩) hHeld ?_
             rotate_left
             · intro W hW;obtain⟨s1,s2,s3,s4,s5⟩:=hW;go_simp;try with_reducible rfl
             simp only[Act.put,List.getElem_toArray,List.getElem_cons_zero,List.setIfInBounds_toArray,List.set_cons_zero,List.set_cons_succ]
             refine wpAnyH_take (i:=1) (oi:=_) (v:=?_) rfl (by kernel_rfl) (by kernel_rfl) (by kernel_rfl) (fun _ _ _ h=>h) (Or.inl ⟨by rfl,?_⟩) hHeld ?_
             rotate_left
             · intro W hW;obtain⟨s1,s2,s3,s4,s5⟩:=hW;go_simp;try with_reducible rfl
             simp only[Act.put,List.getElem_toArray,List.getElem_cons_succ,List.getElem_cons_zero,List.setIfInBounds_toArray,List.set_cons_zero,List.set_cons_succ]
             refine wpAnyH_take (i:=2) (oi:=_) (v:=?_) rfl (by kernel_rfl) (by kernel_rfl) (by kernel_rfl) (fun _ _ _ h=>h) (Or.inl ⟨by rfl,?_⟩) hHeld ?_
             rotate_left
             · intro W hW;obtain⟨s1,s2,s3,s4,s5⟩:=hW;go_simp;try with_reducible rfl
             simp only[Act.put,List.getElem_toArray,List.getElem_cons_succ,List.getElem_cons_zero,List.setIfInBounds_toArray,List.set_cons_zero,List.set_cons_succ]
             refine wpAnyH_take (i:=3) (oi:=_) (v:=?_) rfl (by kernel_rfl) (by kernel_rfl) (by kernel_rfl) (fun _ _ _ h=>h) (Or.inl ⟨by rfl,?_⟩) hHeld ?_
             rotate_left
             · intro W hW;obtain⟨s1,s2,s3,s4,s5⟩:=hW;go_simp;try with_reducible rfl
             simp only[Act.put,List.getElem_toArray,List.getElem_cons_succ,List.getElem_cons_zero,List.setIfInBounds_toArray,List.set_cons_zero,List.set_cons_succ]
             refine wpAnyH_take (i:=4) (oi:=_) (v:=?_) rfl (by kernel_rfl) (by kernel_rfl) (by kernel_rfl) (fun _ _ _ h=>h) (Or.inl ⟨by rfl,?_⟩) hHeld ?_
             rotate_left
             · intro W hW;obtain⟨s1,s2,s3,s4,s5⟩:=hW;go_simp;try with_reducible rfl
             simp only[Act.put,List.getElem_toArray,List.getElem_cons_succ,List.getElem_cons_zero,List.setIfInBounds_toArray,List.set_cons_zero,List.set_cons_succ]
             refine wpAnyH_take (i:=5) (oi:=_) (v:=?_) rfl (by kernel_rfl) (by kernel_rfl) (by kernel_rfl) (fun _ _ _ h=>h) (Or.inl ⟨by rfl,?_⟩) hHeld ?_
             rotate_left
             · intro W hW;obtain⟨s1,s2,s3,s4,s5⟩:=hW;go_simp;try with_reducible rfl
             simp only[Act.put,List.getElem_toArray,List.getElem_cons_succ,List.getElem_cons_zero,List.setIfInBounds_toArray,List.set_cons_zero,List.set_cons_succ]
             refine wpAnyH_take (i:=6) (oi:=_) (v:=?_) rfl (by kernel_rfl) (by kernel_rfl) (by kernel_rfl) (fun _ _ _ h=>h) (Or.inl ⟨by rfl,?_⟩) hHeld ?_
             rotate_left
             · intro W hW;obtain⟨s1,s2,s3,s4,s5⟩:=hW;go_simp;try with_reducible rfl
             simp only[Act.put,List.getElem_toArray,List.getElem_cons_succ,List.getElem_cons_zero,List.setIfInBounds_toArray,List.set_cons_zero,List.set_cons_succ]
             refine wpAnyH_take (i:=7) (oi:=_) (v:=?_) rfl (by kernel_rfl) (by kernel_rfl) (by kernel_rfl) (fun _ _ _ h=>h) (Or.inl ⟨by rfl,?_⟩) hHeld ?_
             rotate_left
             · intro W hW;obtain⟨s1,s2,s3,s4,s5⟩:=hW;go_simp;try with_reducible rfl
             simp only[Act.put,List.getElem_toArray,List.getElem_cons_succ,List.getElem_cons_zero,List.setIfInBounds_toArray,List.set_cons_zero,List.set_cons_succ]
             refine wpAnyH_take (i:=8) (oi:=_) (v:=?_) rfl (by kernel_rfl) (by kernel_rfl) (by kernel_rfl) (fun _ _ _ h=>h) (Or.inl ⟨by rfl,?_⟩) hHeld ?_
             rotate_left
             · intro W hW;obtain⟨s1,s2,s3,s4,s5⟩:=hW;go_simp;try with_reducible rfl
             simp only[Act.put,List.getElem_toArray,List.getElem_cons_succ,List.getElem_cons_zero,List.setIfInBounds_toArray,List.set_cons_zero,List.set_cons_succ]
             refine wpAnyH_take (i:=9) (oi:=_) (v:=?_) rfl (by kernel_rfl) (by kernel_rfl) (by kernel_rfl) (fun _ _ _ h=>h) (Or.inl ⟨by rfl,?_⟩) hHeld ?_
             rotate_left
             · intro W hW;obtain⟨s1,s2,s3,s4,s5⟩:=hW;go_simp;try with_reducible rfl
             simp only[Act.put,List.getElem_toArray,List.getElem_cons_succ,List.getElem_cons_zero,List.setIfInBounds_toArray,List.set_cons_zero,List.set_cons_succ]
             refine wpAnyH_take (i:=10) (oi:=_) (v:=?_) rfl (by kernel_rfl) (by kernel_rfl) (by kernel_rfl) (fun _ _ _ h=>h) (Or.inl ⟨by rfl,?_⟩) hHeld ?_
             rotate_left
             · intro W hW;obtain⟨s1,s2,s3,s4,s5⟩:=hW;go_simp;try with_reducible rfl
             simp only[Act.put,List.getElem_toArray,List.getElem_cons_succ,List.getElem_cons_zero,List.setIfInBounds_toArray,List.set_cons_zero,List.set_cons_succ]
             refine wpAnyH_take (i:=11) (oi:=_) (v:=?_) rfl (by kernel_rfl) (by kernel_rfl) (by kernel_rfl) (fun _ _ _ h=>h) (Or.inl ⟨by rfl,?_⟩) hHeld ?_
             rotate_left
             · intro W hW;obtain⟨s1,s2,s3,s4,s5⟩:=hW;go_simp;try with_reducible rfl
             simp only[Act.put,List.getElem_toArray,List.getElem_cons_succ,List.getElem_cons_zero,List.setIfInBounds_toArray,List.set_cons_zero,List.set_cons_succ]
             refine wpAnyH_take (i:=12) (oi:=_) (v:=?_) rfl (by kernel_rfl) (by kernel_rfl) (by kernel_rfl) (fun _ _ _ h=>h) (Or.inl ⟨by rfl,?_⟩) hHeld ?_
             rotate_left
             · intro W hW;obtain⟨s1,s2,s3,s4,s5⟩:=hW;go_simp;try with_reducible rfl
             simp only[Act.put,List.getElem_toArray,List.getElem_cons_succ,List.getElem_cons_zero,List.setIfInBounds_toArray,List.set_cons_zero,List.set_cons_succ]
             refine wpAnyH_take (i:=13) (oi:=_) (v:=?_) rfl (by kernel_rfl) (by kernel_rfl) (by kernel_rfl) (fun _ _ _ h=>h) (Or.inl ⟨by rfl,?_⟩) hHeld ?_
             rotate_left
             · intro W hW;obtain⟨s1,s2,s3,s4,s5⟩:=hW;go_simp;try with_reducible rfl
             simp only[Act.put,List.getElem_toArray,List.getElem_cons_succ,List.getElem_cons_zero,List.setIfInBounds_toArray,List.set_cons_zero,List.set_cons_succ]
             refine wpAnyH_take (i:=14) (oi:=_) (v:=?_) rfl (by kernel_rfl) (by kernel_rfl) (by kernel_rfl) (fun _ _ _ h=>h) (Or.inl ⟨by rfl,?_⟩) hHeld ?_
             rotate_left
             · intro W hW;obtain⟨s1,s2,s3,s4,s5⟩:=hW;go_simp;try with_reducible rfl
             simp only[Act.put,List.getElem_toArray,List.getElem_cons_succ,List.getElem_cons_zero,List.setIfInBounds_toArray,List.set_cons_zero,List.set_cons_succ]
             refine wpAnyH_take (i:=15) (oi:=_) (v:=?_) rfl (by kernel_rfl) (by kernel_rfl) (by kernel_rfl) (fun _ _ _ h=>h) (Or.inl ⟨by rfl,?_⟩) hHeld ?_
             rotate_left
             · intro W hW;obtain⟨s1,s2,s3,s4,s5⟩:=hW;go_simp;try with_reducible rfl
             simp only[Act.put,List.getElem_toArray,List.getElem_cons_succ,List.getElem_cons_zero,List.setIfInBounds_toArray,List.set_cons_zero,List.set_cons_succ]
             refine wpAnyH_take (i:=16) (oi:=_) (v:=?_) rfl (by kernel_rfl) (by kernel_rfl) (by kernel_rfl) (fun _ _ _ h=>h) (Or.inl ⟨by rfl,?_⟩) hHeld ?_
             rotate_left
             · intro W hW;obtain⟨s1,s2,s3,s4,s5⟩:=hW;go_simp;try with_reducible rfl
             simp only[Act.put,List.getElem_toArray,List.getElem_cons_succ,List.getElem_cons_zero,List.setIfInBounds_toArray,List.set_cons_zero,List.set_cons_succ]
             refine wpAnyH_ready (rs:=[17]) (by kernel_rfl) (by simp) ?_
             refine AllReadyH.cons rfl (fun K hK=>?_) AllReadyH.nil
             go_simp
             refine hK.out _ _ HB.out (fun hHeld=>?_)
             clear hK hHeld K
             refine wpAnyH_ready (rs:=[18]) (by kernel_rfl) (by simp) ?_
             refine AllReadyH.cons rfl (fun K hK=>?_) AllReadyH.nil
             refine LB rfl _ _ rfl w.heap.size _ L rfl HS9.out.o _ _ _ ((k:Int),x.kind,(n:Int)+1,x.item) rfl HR9.out hll HS9.out.b.size ?_
             intro v10 w10 ho10 hg10
             have HS10:=hide (HS9.out.appended hg10 ho10)
             have hne:=fun e=>HS9.out.o.ne HC9.out.m (by decide) e
             have hm10:=HC9.out.m.grown hg10 (fun e=>hne e.symm)
             have hq10:w10.cell? ⟨w.heap.size,10,none⟩=some (.slice (some ⟨bu,ou,none⟩) m.uT.length h.uc)∧w10.cell? ⟨bu,ou+n*7,none⟩=some (.int .i64 x.kind)∧w10.cell? ⟨bu,ou+n*7+1,none⟩=some (.int .i64 x.item)∧w.heap.size<w10.heap.size∧bu<w10.heap.size:=by
              have hbb:Below w.heap.size (w8.drew.alloc (.cells #[.int .i64 k,.int .i64 x.kind,.int .i64 ((n:Int)+1),.int .i64 x.item] 60)) w10:=(Below.refl _ _).grown hg10 HC9.out.b.size (fun g e=>(HS9.out.o.lt g e).1)
              exact⟨by have:=hm10.cell 10;simpa using this,(hbb.cell (p:=⟨bu,ou+n*7,none⟩) HC9.out.lt).trans HB.out.2.1,(hbb.cell (p:=⟨bu,ou+n*7+1,none⟩) HC9.out.lt).trans HB.out.2.2.1,hm10.lt,Nat.lt_of_lt_of_le HC9.out.lt HS10.out.b.size⟩
             refine hK.out _ _ hq10 (fun hHeld=>?_)
             clear hK hHeld K ho10 hg10 hne hm10
             refine wpAnyH_ready (rs:=[19]) (by kernel_rfl) (by simp) ?_
             refine AllReadyH.cons rfl (fun K hK=>?_) AllReadyH.nil
             go_simp
             refine hK.out _ _ hq10 (fun hHeld=>?_)
             refine wpAnyH_done (by kernel_rfl) ?_ _
             clear hK hHeld K hq10
             go_wp2_with fail
             go_roundw
             case rel=>exact⟨n+1,HLN.out,by go_num,by rw[HBS.out,HN.out,← List.append_assoc,← HL.out];exact HS10.out⟩
             case measure=>have:=HLN.out;simp[intOf];omega
           · have HN:=hide (JG (m:=m) (q:=q) (i:=k) (k:=n) (r:=x) (.inr hh))
             go_wp2_with fail
             go_region_held3 (fun W=>((W.cell? ⟨w.heap.size,0,none⟩=some (.slice h.s m.sT.length h.sc)∧W.cell? ⟨w.heap.size,1,none⟩=some (.slice h.f m.fT.length h.fc)∧W.cell? ⟨w.heap.size,2,none⟩=some (.slice h.r m.rT.length h.rc)∧W.cell? ⟨w.heap.size,3,none⟩=some (.slice h.m m.mT.length h.mc)∧W.cell? ⟨w.heap.size,4,none⟩=some (.slice h.l m.lT.length h.lc)∧W.cell? ⟨w.heap.size,5,none⟩=some (.slice h.i m.iT.length h.ic)∧W.cell? ⟨w.heap.size,6,none⟩=some (.int .i64 m.dT)∧W.cell? ⟨w.heap.size,7,none⟩=some (.int .i64 m.oT)∧W.cell? ⟨w.heap.size,8,none⟩=some (.int .i64 m.vT)∧W.cell? ⟨w.heap.size,9,none⟩=some (.int .i64 m.aT)∧W.cell? ⟨w.heap.size,10,none⟩=some (.slice (some ⟨bu,ou,none⟩) m.uT.length h.uc))∧(W.cell? ⟨bu,ou+n*7,none⟩=some (.int .i64 x.kind)∧W.cell? ⟨bu,ou+n*7+1,none⟩=some (.int .i64 x.item)∧W.cell? ⟨bu,ou+n*7+2,none⟩=some (.int .i64 x.other)∧W.cell? ⟨bu,ou+n*7+3,none⟩=some (.int .i64 x.n)∧W.cell? ⟨bu,ou+n*7+4,none⟩=some (.int .i64 x.by_)∧W.cell? ⟨bu,ou+n*7+5,none⟩=some (.bool x.always)∧W.cell? ⟨bu,ou+n*7+6,none⟩=some (.slice A2 x.machines.length c2))∧W.cell? ⟨w1.heap.size,0,none⟩=some (.slice Ap q.length cp))∧Cs w #[.slice h.s m.sT.length h.sc,.slice h.f m.fT.length h.fc,.slice h.r m.rT.length h.rc,.slice h.m m.mT.length h.mc,.slice h.l m.lT.length h.lc,.slice h.i m.iT.length h.ic,.int .i64 m.dT,.int .i64 m.oT,.int .i64 m.vT,.int .i64 m.aT,.slice (some ⟨bu,ou,none⟩) m.uT.length h.uc] bu (ou+n*7) #[.int .i64 x.kind,.int .i64 x.item,.int .i64 x.other,.int .i64 x.n,.int .i64 x.by_,.bool x.always,.slice A2 x.machines.length c2] w1.heap.size #[.slice Ap q.length cp] wr W)
                   ((with_reducible (first|(go_keep;done)|exact⟨Cs.cells HW.out.drew,HW.out.drew⟩|exact⟨Cs.cells c7,c7⟩|exact⟨Cs.cells c8,c8⟩|(have hH:=(by assumption:_∧Cs _ _ _ _ _ _ _ _ _);exact⟨Cs.cells (Cs.drew hH.2),Cs.drew hH.2⟩))))
                   ((first|(go_at_call 84;(with_reducible refine(HWA.out _ HW.out.drew.b HW.out.drew.g).mono ?_);rintro e w7 ⟨he7,hb7⟩;rw[hw] at he7;subst he7;have c7:=Cs.grow HW.out.drew hb7)|(go_at_call 85;(with_reducible refine(HHO.out _ c7.b c7.g).mono ?_);rintro e w8 ⟨he8,hb8⟩;rw[hh] at he8;subst he8;have c8:=Cs.grow c7 hb8)))
             go_wp2_with fail
             go_roundw
             case rel=>exact⟨n+1,HLN.out,by go_num,by rw[HBS.out,HN.out,List.append_nil];exact HS.out.grow c8.g⟩
             case measure=>have:=HLN.out;simp[intOf];omega
       · obtain rfl:n=m.uT.length:=by omega
         obtain⟨a0,a1,a2,a3,a4,a5,a6,a7,a8,a9,a10⟩:=MB.cells hS.mo
         have al:=hS.mo.lt
         clear hS
         go_wp2_with fail
         go_roundw
         case rel=>exact⟨k+1,HLT.out,by go_num,by rw[← HQ.out,HBT.out];exact HS.out⟩
         case measure=>have:=HLT.out;simp[intOf];omega
  · obtain rfl:k=l.length:=by omega
    have HO:=hide hS.out.o
    have HBB:=hide hS.out.b
    clear hS
    go_wp2_with fail
    go_ret
    exact⟨_,rfl,HO.out,HBB.out⟩
end Go.Proofs.YtfemlajeomohhaaGreatDoor
