/- A part of the claim: see its last text. -/
import Derived.Test.YtfemlajeomohhaaGreatDoorUK06

set_option maxRecDepth 100000
set_option maxHeartbeats 16000000
namespace Go.Proofs.YtfemlajeomohhaaGreatDoor
open Go Go.RowKit Go.Proofs
theorem NV {ops:Array Oper} {rest:List Oper} {o:Oper} {a:Act} {Q:Exit→Act→World→Prop} {w:World} (hgd:o.guard=none) (s x:Operand)
    (ho:o.op=.call { callee:=.builtin .append,args:=#[s,x],argTypes:=#[54,54] })
    (base:Nat) (v:Value) (n:Nat) (xs:List Value) (hs:a.eval s=v) (hown:w.ownsRow base 57 1 v n xs)
    (B:Nat) (A:Option Addr) (c:Nat) (u:Value) (hx:a.eval x=.slice A 1 c) (hr:Reads w B 1 A 1 [u]) (hu:u.oneCell'=true)
    (hlen:n≤1000000) (hbase:base≤w.heap.size)
    (h:∀ v' w',w'.ownsRow base 57 1 v' (n+1) (xs ++ [u])→w.grownBy w' v.ownBlock→(v'.ownBlock=v.ownBlock∨v'.ownBlock=some w.heap.size)→wpList Tryz.prog ops Q rest (a.put o.dst v') w'):wpList Tryz.prog ops Q (o :: rest) a w :=
 wpList_plain hgd fun _ hK=>by
  obtain⟨i0,hi,hz0,hz1,hz2⟩:=info_parts Sk
  exact BZ w s x 54 ho base 57 i0 _ 1 24 Tryz.underlying54 hi hz0 hz1 hz2 rfl (by omega) v n xs hs hown B A 1 c [u] hx hr (fun y hy=>by rw[List.mem_singleton.1 hy];exact hu) (by unfold maxLen;omega) (by omega) hbase
   fun v' w' h2 h3 h4=>hK _ _ (h v' w' h2 h3 h4)
structure El (B:Nat) (w:World) (v:Value) (p:AA) (xs:List Value):Prop where
 own:w.ownsRow B 57 1 v p.length xs
 len:xs.length=p.length
 each:∀ i (hi:i<p.length),∃ u,xs[i]? = some u∧Ad B w u p[i]
 apart:∀ (i j:Nat) (u u':Value) (g:Nat),i<j→xs[i]? = some u→xs[j]? = some u'→u.ownBlock=some g→u'.ownBlock≠some g
theorem El.keep {B:Nat} {w w':World} {v:Value} {p:AA} {xs:List Value} (h:El B w v p xs) (h1:KT 72 w w') (h2:KT 57 w w'):El B w' v p xs:=by
 refine⟨⟨h.own.1,?_⟩,h.len,fun i hi=>by obtain⟨u,e,hu⟩:=h.each i hi;exact⟨u,e,hu.keep h1⟩,h.apart⟩
 rcases h.own.2 with h0|⟨g,cap,cur,e,hb,hh,h3⟩
 · exact .inl h0
 · exact .inr ⟨g,cap,cur,e,hb,h2.2 _ _ hh,h3⟩
theorem El.snoc {B:Nat} {w w':World} {v v' u:Value} {p:AA} {l:List AO} {xs:List Value} {n:Nat} (h:El B w v p xs) (hn:∀ (i:Nat) (x:Value) (g:Nat),xs[i]? = some x→x.ownBlock=some g→g<n) (hu:Ad B w u l) (hug:∀ g,u.ownBlock=some g→n≤g)
    (hg:w.grownBy w' v.ownBlock) (ho':w'.ownsRow B 57 1 v' (p.length+1) (xs ++ [u])):El B w' v' (p ++ [l]) (xs ++ [u]):=by
 have hk:KT 72 w w':=KT.grown h.own (by decide) hg
 refine⟨by rw[List.length_append];exact ho',by simp[h.len],fun i hi=>?_,fun i j x x' g hij hi hj e=>?_⟩
 · by_cases hip:i<p.length
   · obtain⟨y,e,hy⟩:=h.each i hip
     refine⟨y,by rw[List.getElem?_append_left (by rw[h.len];omega)];exact e,?_⟩
     rw[List.getElem_append_left hip];exact hy.keep hk
   · have:i=p.length:=by simp at hi;omega
     subst this
     exact⟨u,by rw[List.getElem?_append_right (by rw[h.len];omega)];simp[h.len],by simpa using hu.keep hk⟩
 · by_cases hjl:j<xs.length
   · rw[List.getElem?_append_left (by omega)] at hi hj
     exact h.apart i j x x' g hij hi hj e
   · have hj2:j<(xs ++ [u]).length:=(List.getElem?_eq_some_iff.1 hj).1
     have:j=xs.length:=by simp at hj2;omega
     subst this
     rw[List.getElem?_append_left (by omega)] at hi
     rw[List.getElem?_append_right (Nat.le_refl _)] at hj
     simp at hj
     subst hj
     intro e2
     have:=hn i x g hi e
     have:=hug g e2
     omega
theorem LY {w:World} {B B':Nat} {v:Value} {l:List AO} (h:Ad B' w v l) (hB:B≤B'):Ad B w v l:=by
 refine⟨h.1,?_⟩
 rcases h.2 with h0|⟨g,cap,cur,e1,e2,h3⟩
 · exact .inl h0
 · exact .inr ⟨g,cap,cur,e1,by omega,h3⟩
theorem QN (A:Option Addr) (c:Nat) (l:List AO) (w:World) (h:UT w (.slice A l.length c) l) (hl:l.length≤1000) :
    Calls Tryz.prog 206 #[.slice A l.length c] w (QQ w l):=by
 have HC:=hide (NZ A c l w h hl)
 go_enter Tryz.func206,Tryz.ntmps206
 go_wp2_with (go_at_call 207;refine HC.out.mono ?_;rintro e w1 ⟨v,rfl,hO,hb⟩)
 go_ret
 exact⟨v,rfl,hO,hb⟩
def U4(w:World)(p:AA)(e:Ending)(w':World):Prop:=∃ v xs,e=.returned v∧El w.heap.size w' v p xs∧Below w.heap.size w w'
def RO(B:Nat)(w:World)(v:Value)(p:AA):Prop:=∃ xs,El B w v p xs∧∀ (i:Nat) (x:Value) (g:Nat),xs[i]? = some x→x.ownBlock=some g→g<w.heap.size
theorem Je (A:Option Addr) (c:Nat) (p:AA) (w:World) (h:PT w (.slice A p.length c) p) (hl:p.length≤1000) (hu:∀ l∈p,l.length≤1000) :
    Calls Tryz.prog 205 #[.slice A p.length c,.func (.func 206) #[] #[]] w (U4 w p):=by
 have HU:=hide hu
 clear hu
 have H0:=hide (show RO w.heap.size w (.slice none 0 0) (p.take 0) from⟨[],⟨by simpa using World.ownsRow_nil w w.heap.size 57 1,by simp,fun i hi=>absurd hi (by simp),fun i j u u' g _ hi=>by simp at hi⟩,fun i x g hi=>by simp at hi⟩)
 go_enter Tryz.func205,Tryz.ntmps205
 go_wp2_with fail
 go_loopw [5,10] (fun v i wr=>∃ k:Nat,k≤p.length∧i=.int .i64 k∧Hid (RO w.heap.size wr v (p.take k))∧Below w.heap.size w wr) (fun _ i _=>p.length - (intOf i).toNat)
 case atStart=>exact⟨0,Nat.zero_le _,rfl,H0,Below.refl _ _⟩
 case round =>
  clear H0
  obtain⟨k,hk,rfl,hM,hbr⟩:=hrel
  by_cases hlt:k<p.length
  · obtain ⟨b,off,A2,c2,hA,hb,x0,hut⟩:=(h.below hbr).at_ hlt
    subst hA
    have hM0:=hM.out
    obtain⟨q,hq⟩:∃ q,q=p.take k:=⟨_,rfl⟩
    rw[← hq] at hM0
    obtain⟨xs,hD,hX⟩:=hM0
    have HC:=hide (QN A2 c2 p[k] wr hut (HU.out _ (List.getElem_mem hlt)))
    have HD:=hide (And.intro hD hX)
    have HT:=hide (show q ++ [p[k]]=p.take (k+1) by rw[hq,List.take_succ_eq_append_getElem hlt])
    have hkl:q.length≤1000000:=by rw[hq];simp;omega
    have HKL:=hide hkl
    clear hut hD hX hkl hq hM
    go_wp2_with (first
     | ((with_reducible refine Calls.mono HC.out ?_);rintro e w1 ⟨u,rfl,hO,hb1⟩
        have hD1:=HD.out.1.keep (KT.below hb1) (KT.below hb1)
        obtain⟨A3,c3,rfl,_⟩:=hO.ut.form
        have hO1:=hide hO
        have hD1:=hide hD1
        have a0:=hide (World.ownsRow.alloc hD1.out.own (.cells #[.slice A3 p[k].length c3] 57))
        have a1:=HKL
        have a3:=hide (Reads.newRow w1 #[.slice A3 p[k].length c3] 57 1 1 rfl)
        clear hO)
     | (at_builtin;refine NV rfl _ _ rfl w.heap.size _ q.length xs rfl a0.out _ _ 1 (.slice A3 p[k].length c3) rfl a3.out rfl a1.out (by have:=hbr.size;have:=hb1.size;simp;omega) ?_;intro v3 w3 ho3 hg3 _;have ho3:=hide ho3;have hg3:=hide hg3))
    have hMS:RO w.heap.size w3 v3 (p.take (k+1)):=by
     rw[← HT.out]
     have hD2:=hD1.out.keep (KT.alloc w1 (.cells #[.slice A3 p[k].length c3] 57)) (KT.alloc w1 (.cells #[.slice A3 p[k].length c3] 57))
     have hO2:Ad w.heap.size (w1.alloc (.cells #[.slice A3 p[k].length c3] 57)) (.slice A3 p[k].length c3) p[k]:=(LY hO1.out hbr.size).keep (KT.alloc w1 _)
     refine⟨xs ++ [.slice A3 p[k].length c3],hD2.snoc (n:=wr.heap.size) HD.out.2 hO2 (fun g hg=>(hO1.out.lt g hg).1) hg3.out ho3.out,fun i x g hi hx=>?_⟩
     have hs3:=hg3.out.size
     simp at hs3
     by_cases hil:i<xs.length
     · rw[List.getElem?_append_left hil] at hi
       have:=HD.out.2 i x g hi hx
       have:=hb1.size
       omega
     · have hi2:i<(xs ++ [Value.slice A3 p[k].length c3]).length:=(List.getElem?_eq_some_iff.1 hi).1
       have:i=xs.length:=by simp at hi2;omega
       subst this
       rw[List.getElem?_append_right (Nat.le_refl _)] at hi
       simp at hi
       subst hi
       have:=(hO1.out.lt g hx).2
       omega
    have hb3:Below w.heap.size w w3:=((hbr.trans (hb1.mono hbr.size)).alloc (by have:=hbr.size;have:=hb1.size;omega) (.cells #[.slice A3 p[k].length c3] 57)).grown hg3.out (by have:=hbr.size;have:=hb1.size;simp;omega) (fun q hq=>(World.ownsRow.lt hD1.out.own q hq).1)
    go_roundw
    case rel=>exact⟨k+1,by omega,by go_num,hMS,hb3⟩
    case measure=>simp[intOf];omega
  · obtain rfl:k=p.length:=by omega
    have hM2:=hM.out
    rw[List.take_length] at hM2
    obtain⟨xs,hD,_⟩:=hM2
    have HD:=hide hD
    clear hD
    go_wp2_with fail
    go_ret
    exact⟨_,xs,rfl,HD.out,hbr⟩
def BG(w:World)(p:AA)(e:Ending)(w':World):Prop:=∃ A c,e=.returned (.agg #[.slice A p.length c])∧PT w' (.slice A p.length c) p∧Below w.heap.size w w'
def E9(W:World)(v:Value)(l:List AO)(e:Ending)(W':World):Prop:=∃ A c,e=.returned (.slice A l.length c)∧UT W' (.slice A l.length c) l∧W.grownBy W' v.ownBlock
theorem El.op{B:Nat}{w:World}{v:Value}{p:AA}{xs:List Value}(h:El B w v p xs):OP B w v p:=⟨xs,h.own,h.len,fun i hi=>by obtain⟨u,e,hu⟩:=h.each i hi;exact⟨u,e,hu.ut⟩⟩
theorem El.change {B g c j:Nat} {w w':World} {p:AA} {xs:List Value} {u u':Value} {l:List AO} (h:El B w (.slice (some ⟨g,0,none⟩) p.length c) p xs) (hj:j<p.length) (hx:xs[j]? = some u)
    (hg:w.grownBy w' u.ownBlock) (hu:UT w' u' l):OP B (w'.setCell ⟨g,j,none⟩ u') (.slice (some ⟨g,0,none⟩) p.length c) (p.set j l)∧w'.cell? ⟨g,j,none⟩=some u∧w'.frozen? ⟨g,j,none⟩=false:=by
 have hrow:∃ cur,AB w g 57 cur:=by
  rcases h.own.2 with⟨e,_⟩|⟨g2,cap,cur,e,_,hh,_⟩
  · cases e
  · have he1:g=g2:=by have h1:=(Value.slice.inj e).1;have h2:=Option.some.inj h1;exact congrArg Addr.block h2
    subst he1
    exact⟨cur,hh⟩
 obtain⟨cur,hb⟩:=hrow
 have hne:∀ k,u.ownBlock=some k→g≠k:=by
  rintro k hk rfl
  obtain⟨y,e,hy⟩:=h.each j hj
  rw[hx] at e
  obtain rfl:u=y:=Option.some.inj e
  rcases hy.2 with⟨rfl,_⟩|⟨g2,cap,cur2,rfl,_,hh,_⟩
  · cases hk
  · obtain rfl:g2=g:=Option.some.inj hk
    rw[AB] at hb
    have:=(Obj.cells.inj (Option.some.inj (hb.symm.trans hh))).2.1
    exact absurd this (by decide)
 have hb':AB w' g 57 cur:=hb.grown hg fun e=>hne _ e.symm rfl
 have hown':w'.ownsRow B 57 1 (.slice (some ⟨g,0,none⟩) p.length c) p.length xs:=h.own.kept hg (.inr fun e=>hne g e.symm rfl)
 have hc:w'.cell? ⟨g,j,none⟩=some u:=by rw[World.ownsRow.cellAt hown' j (by omega),hx]
 refine⟨⟨xs.set j u',?_,by simp[h.len],fun i hi=>?_⟩,hc,hb'.frozen j⟩
 · have:=World.ownsRow.stored hown' j u'
   rw[List.length_set]
   exact this.1
 · have hip:i<p.length:=by simpa using hi
   have hset:KT 72 w' (w'.setCell ⟨g,j,none⟩ u'):=KT.set_ hb' (by decide) j u'
   by_cases hij:j=i
   · subst hij
     exact⟨u',by rw[List.getElem?_set_self (by rw[h.len];omega)],by simpa using hu.keep hset⟩
   · obtain ⟨y,e,hy⟩:=h.each i hip
     refine⟨y,by rw[List.getElem?_set_ne hij];exact e,?_⟩
     rw[List.getElem_set_ne hij]
     refine UT.keep (Ad.ut (B:=B) ?_) hset
     refine⟨hy.1,?_⟩
     rcases hy.2 with h0|⟨g2,cap,cur2,e2,hB2,hh,h3⟩
     · exact .inl h0
     · refine .inr ⟨g2,cap,cur2,e2,hB2,(hg.block g2 (AB.lt hh) fun e3=>?_).trans hh,h3⟩
       rcases Nat.lt_or_ge i j with hlt|hge
       · exact h.apart i j y u g2 hlt e hx (by rw[e2];rfl) e3.symm
       · exact h.apart j i u y g2 (by omega) hx e e3.symm (by rw[e2];rfl)
theorem NQ{p:AA}{item:Int}{l:List AO}(h:AP item p.length=false):BL p item l=p:=by simp[BL,h]
theorem Le {p:AA} {j:Nat} {l:List AO} (hj:j<p.length):BL p ((j:Int)+1) l=p.set j l:=by
 have:AP ((j:Int)+1) p.length=true:=by simp[AP];omega
 simp[BL,this]
theorem Q6 {B:Nat} {w:World} {v:Value} {p:AA} {xs:List Value} (h:El B w v p xs) (hp:0<p.length):∃ g c,v=.slice (some ⟨g,0,none⟩) p.length c∧B≤g∧g<w.heap.size:=by
 obtain⟨g,c,e,h1,h2⟩:=World.ownsRow.form h.own hp
 exact⟨g,c,e,h1,h2⟩
theorem Ti (g : Nat) (lb:Array Value) (A:Option Addr) (c:Nat) (p:AA) (item:Int) (l:List AO) (w:World) (h:PT w (.slice A p.length c) p) (hl:p.length≤1000) (hu:∀ l∈p,l.length≤1000) (hi:AP item p.length=false) :
    Calls Tryz.prog 170 #[.agg #[.slice A p.length c],.int .i64 item,.func (.func g) #[] lb] w (BG w (BL p item l)):=by
 have hB:=(((Below.refl w.heap.size w).alloc (Nat.le_refl _) (.cells #[.slice A p.length c] 56)).alloc (by simp) (.cells #[.slice none 0 0] 56))
 have HB:=hide hB
 have HM:=hide (Je A c p _ (h.below hB) hl hu)
 have HW:=hide (NQ (l:=l) hi)
 have HX:=hide (AB.alloc (AB.new w 56 #[.slice A p.length c]) (.cells #[.slice none 0 0] 56))
 have HY:=hide (AB.new (w.alloc (.cells #[.slice A p.length c] 56)) 56 #[.slice none 0 0])
 have hcase:item<1∨(¬ item<1∧(p.length:Int)<item):=by simp[AP] at hi;omega
 clear hB h hu hi
 rcases hcase with q|⟨q,q2⟩
 all_goals
  go_enter Tryz.func170,Tryz.ntmps170
  go_wp2_with (go_at_call 205;refine HM.out.mono ?_;rintro e w1 ⟨v,xs,rfl,hD,hb1⟩
               obtain⟨A1,c1,rfl,_⟩:=hD.op.pt.form
               have HD:=hide hD
               have hX1:=HX.out.below hb1 (by simp <;> omega)
               have hY1:=HY.out.below hb1 (by simp <;> omega)
               have z0:=hX1.cell 0
               have f0:=hX1.frozen 0
               have zl:=hX1.lt
               have y0:=hY1.cell 0
               have g0:=hY1.frozen 0
               have yl:=hY1.lt
               simp at z0 y0 f0 g0 yl
               have HX1:=hide hX1
               have HY1:=hide hY1
               have HB1:=hide (HB.out.trans (hb1.mono HB.out.size))
               clear hD hX1 hY1 hb1)
  refine bodyPost_ret (v:=.agg #[.slice A1 p.length c1]) (by simp[results,Tryz.results170,go_sem, *]) rfl ?_
  rw[HW.out]
  have k1:KT 72 w1 (w1.setCell ⟨w.heap.size,0,none⟩ (.slice A1 p.length c1)):=KT.set_ HX1.out (by decide) 0 _
  have k2:KT 57 w1 (w1.setCell ⟨w.heap.size,0,none⟩ (.slice A1 p.length c1)):=KT.set_ HX1.out (by decide) 0 _
  have hY2:AB (w1.setCell ⟨w.heap.size,0,none⟩ (.slice A1 p.length c1)) (w.heap.size+1) 56 #[.slice none 0 0]:=by
   have:=HY1.out
   simp at this
   exact this.far (by simp) _
  refine⟨A1,c1,rfl,(HD.out.op.pt.keep k1 k2).keep (KT.set_ hY2 (by decide) 0 _) (KT.set_ hY2 (by decide) 0 _),(HB1.out.setCell (by simp) _).setCell (by simp) _⟩
theorem Below.grownL{B:Nat}{a w w':World}{v:Value}(hb:Below B a w)(hg:w.grownBy w' v.ownBlock)(hB:B≤w.heap.size)(hv:∀ k,v.ownBlock=some k→B≤k):Below B a w':=hb.grown hg hB hv
theorem Sb (g : Nat) (lb:Array Value) (eg:∀ args w,(callFunc g args).run Tryz.prog w=.ok (.enter g args) w) (A:Option Addr) (c:Nat) (p:AA) (j:Nat) (hj:j<p.length) (l:List AO) (w:World) (h:PT w (.slice A p.length c) p) (hl:p.length≤1000) (hu:∀ l∈p,l.length≤1000)
    (hch:∀ (W:World) (A2:Option Addr) (c2:Nat),Below w.heap.size w W→Ad w.heap.size W (.slice A2 p[j].length c2) p[j]→Calls Tryz.prog g (#[.slice A2 p[j].length c2]++lb) W (E9 W (.slice A2 p[j].length c2) l)) :
    Calls Tryz.prog 170 #[.agg #[.slice A p.length c],.int .i64 ((j:Int)+1),.func (.func g) #[] lb] w (BG w (BL p ((j:Int)+1) l)):=by
 have hB:=(((Below.refl w.heap.size w).alloc (Nat.le_refl _) (.cells #[.slice A p.length c] 56)).alloc (by simp) (.cells #[.slice none 0 0] 56))
 have HB:=hide hB
 have HM:=hide (Je A c p _ (h.below hB) hl hu)
 have HW:=hide (Le (l:=l) hj)
 have HX:=hide (AB.alloc (AB.new w 56 #[.slice A p.length c]) (.cells #[.slice none 0 0] 56))
 have HY:=hide (AB.new (w.alloc (.cells #[.slice A p.length c] 56)) 56 #[.slice none 0 0])
 have HCH:=hide hch
 have hjI:(j:Int)<(p.length:Int):=by omega
 have hw1:IntKind.i64.wrap (j:Int)=(j:Int):=IntWalk.i64_in _ (by omega)
 clear hB h hu hch
 go_enter Tryz.func170,Tryz.ntmps170
 go_wp2_with (go_at_call 205;refine HM.out.mono ?_;rintro e w1 ⟨v,xs,rfl,hD,hb1⟩
              obtain⟨gr,c1,rfl,hBg,hgl⟩:=Q6 hD (by omega)
              have HD:=hide hD
              have hX1:=HX.out.below hb1 (by simp <;> omega)
              have hY1:=HY.out.below hb1 (by simp <;> omega)
              have z0:=hX1.cell 0
              have f0:=hX1.frozen 0
              have zl:=hX1.lt
              simp at z0 f0 hBg
              have HX1:=hide hX1
              have HY1:=hide hY1
              have HB1:=hide (HB.out.trans (hb1.mono HB.out.size))
              clear hD hX1 hY1 hb1)
 have k1:KT 72 w1 (w1.setCell ⟨w.heap.size,0,none⟩ (.slice (some ⟨gr,0,none⟩) p.length c1)):=KT.set_ HX1.out (by decide) 0 _
 have k2:KT 57 w1 (w1.setCell ⟨w.heap.size,0,none⟩ (.slice (some ⟨gr,0,none⟩) p.length c1)):=KT.set_ HX1.out (by decide) 0 _
 have hX2:AB (w1.setCell ⟨w.heap.size,0,none⟩ (.slice (some ⟨gr,0,none⟩) p.length c1)) w.heap.size 56 #[.slice (some ⟨gr,0,none⟩) p.length c1]:=by
  have:=HX1.out.set_ 0 (.slice (some ⟨gr,0,none⟩) p.length c1)
  simpa using this
 have hY2:AB (w1.setCell ⟨w.heap.size,0,none⟩ (.slice (some ⟨gr,0,none⟩) p.length c1)) (w.heap.size+1) 56 #[.slice none 0 0]:=by
  have:=HY1.out
  simp at this
  exact this.far (by simp) _
 have hD2:=HD.out.keep k1 k2
 have hB2:Below w.heap.size w (w1.setCell ⟨w.heap.size,0,none⟩ (.slice (some ⟨gr,0,none⟩) p.length c1)):=HB1.out.setCell (by simp) _
 have hg2:gr<(w1.setCell ⟨w.heap.size,0,none⟩ (.slice (some ⟨gr,0,none⟩) p.length c1)).heap.size:=by simpa using hgl
 clear k1 k2 HD HX1 HY1 HB1 z0 f0 zl hgl HM HX HY
 generalize w1.setCell ⟨w.heap.size,0,none⟩ (.slice (some ⟨gr,0,none⟩) p.length c1)=W2 at *
 obtain⟨u,hxu,hOu⟩:=hD2.each j hj
 have hOu2:=LY hOu (show w.heap.size≤_ by simp;omega)
 have hlt3:=fun k hk=>(hOu.lt k hk).1
 obtain⟨A2,c2,rfl,_⟩:=hOu.ut.form
 have hr0:W2.cell? ⟨gr,j,none⟩=some (.slice A2 p[j].length c2):=by rw[World.ownsRow.cellAt hD2.own j (by omega),hxu]
 have hx0:=hX2.cell 0
 have hxl:=hX2.lt
 simp at hx0
 have HC3:=hide (show Calls Tryz.prog g (#[.slice A2 p[j].length c2]++lb) W2.drew (E9 W2.drew (.slice A2 p[j].length c2) l) from HCH.out W2.drew A2 c2 hB2.drew (hOu2.keep (KT.drew W2)))
 have hgne:¬ gr=w.heap.size:=by omega
 have hgne2:¬ w.heap.size=gr:=by omega
 have HF:∀ e W3,E9 W2.drew (.slice A2 p[j].length c2) l e W3→∃ A3 c3,e=.returned (.slice A3 l.length c3)∧W3.cell? ⟨gr,j,none⟩=some (.slice A2 p[j].length c2)∧W3.frozen? ⟨gr,j,none⟩=false∧W3.cell? ⟨w.heap.size,0,none⟩=some (.slice (some ⟨gr,0,none⟩) p.length c1)∧w.heap.size<W3.heap.size ∧
     W3.cell? ⟨w.heap.size+1,0,none⟩=some (.slice none 0 0)∧W3.frozen? ⟨w.heap.size+1,0,none⟩=false∧w.heap.size+1<W3.heap.size∧gr<W3.heap.size ∧
     Hid (OP (w.heap.size+1+1) (W3.setCell ⟨gr,j,none⟩ (.slice A3 l.length c3)) (.slice (some ⟨gr,0,none⟩) p.length c1) (p.set j l)∧AB W3 (w.heap.size+1) 56 #[.slice none 0 0]∧Below w.heap.size w W3):=by
  rintro e W3 ⟨A3,c3,rfl,hU3,hg3⟩
  obtain⟨hOP,r3,fr3⟩:=El.change (hD2.keep (KT.drew W2) (KT.drew W2)) hj hxu hg3 hU3
  have hlt4:∀ k,(Value.slice A2 p[j].length c2).ownBlock=some k→w.heap.size+1<k:=fun k hk=>by have:=hlt3 k hk;simp at this;omega
  have hX3:=(AB.drew hX2).grown hg3 (fun e=>by have:=hlt4 _ e.symm;omega)
  have hY3:=(AB.drew hY2).grown hg3 (fun e=>by have:=hlt4 _ e.symm;omega)
  have hB3:=Below.grownL hB2.drew hg3 hB2.size (fun k hk=>by have:=hlt4 _ hk;omega)
  exact⟨A3,c3,rfl,r3,fr3,hX3.cell 0,hX3.lt,hY3.cell 0,hY3.frozen 0,hY3.lt,Nat.lt_of_lt_of_le hg2 hg3.size,⟨by simpa using hOP,hY3,hB3⟩⟩
 have HF:=hide HF
 clear hD2 hX2 hY2 hB2 hxu hOu hOu2 hlt3
 go_region_law
  ((first
    | (go_simp;(with_reducible refine Calls.mono HC3.out ?_);intro e W3 hch3;obtain⟨A3,c3,rfl,r3,fr3,x3,x3l,y3,y3f,y3l,hgl3,HE⟩:=HF.out e W3 hch3;clear hch3;dsimp only)))
 all_goals
  go_wp2_with fail
  refine bodyPost_ret (v:=.agg #[.slice (some ⟨gr,0,none⟩) p.length c1]) (by simp[results,Tryz.results170,go_sem, *]) rfl ?_
  rw[HW.out]
  obtain⟨hOP,hY3,hB3⟩:=HE.out
  have hlen:(p.set j l).length=p.length:=by simp
  have hY4:AB (W3.setCell ⟨gr,j,none⟩ (.slice A3 l.length c3)) (w.heap.size+1) 56 #[.slice none 0 0]:=hY3.far (by simp;omega) _
  have hPT:=(hOP.pt.keep (KT.set_ hY4 (by decide) 0 (.slice (some ⟨gr,0,none⟩) p.length c1)) (KT.set_ hY4 (by decide) 0 (.slice (some ⟨gr,0,none⟩) p.length c1)))
  refine⟨some ⟨gr,0,none⟩,c1,by rw[hlen],by rw[hlen];exact hPT,(hB3.setCell (by simp;omega) _).setCell (by simp) _⟩
end Go.Proofs.YtfemlajeomohhaaGreatDoor
