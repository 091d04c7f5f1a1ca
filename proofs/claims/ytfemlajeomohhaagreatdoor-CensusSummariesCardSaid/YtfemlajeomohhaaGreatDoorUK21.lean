/- A part of the claim: see its last text. -/
import Derived.Test.YtfemlajeomohhaaGreatDoorUK20

set_option maxRecDepth 100000
set_option maxHeartbeats 16000000
namespace Go.Proofs.YtfemlajeomohhaaGreatDoor
open Go Go.RowKit Go.Proofs
theorem Ty:(Tryz.prog.info? 56).map (fun i=>(i.zero,i.size,i.bytes))=some (some (.agg #[.slice none 0 0]),1,24):=by kernel_rfl
def Dj (B:Nat) (w:World) (v:Value) (ps:List AA):Prop :=
 ∃ xs:List Value,w.ownsRow B 56 1 v ps.length xs∧xs.length=ps.length∧∀ i (hi:i<ps.length),∃ u,xs[i]? = some u∧PT w u ps[i]
theorem Dj.nil_(B:Nat)(w:World):Dj B w (.slice none 0 0) []:=⟨[],World.ownsRow_nil _ _ _ _,rfl,fun i hi=>absurd hi (by simp)⟩
theorem Dj.lt {B:Nat} {w:World} {v:Value} {ps:List AA} (h:Dj B w v ps):∀ k,v.ownBlock=some k→B≤k∧k<w.heap.size:=by
 obtain⟨xs,ho,_⟩:=h
 exact World.ownsRow.lt ho
theorem Dj.keep {B:Nat} {w w':World} {v:Value} {ps:List AA} (h:Dj B w v ps) (h1:KT 72 w w') (h2:KT 57 w w') (h3:∀ g cur,v.ownBlock=some g→AB w g 56 cur→AB w' g 56 cur):Dj B w' v ps:=by
 obtain⟨xs,ho,hl,hu⟩:=h
 refine⟨xs,⟨ho.1,?_⟩,hl,fun i hi=>by obtain⟨u,e,h⟩:=hu i hi;exact⟨u,e,h.keep h1 h2⟩⟩
 rcases ho.2 with h0|⟨g,cap,cur,e,hb,hh,h4⟩
 · exact .inl h0
 · exact .inr ⟨g,cap,cur,e,hb,h3 _ _ (by rw[e];rfl) hh,h4⟩
theorem Dj.below{B:Nat}{w w':World}{v:Value}{ps:List AA}(h:Dj B w v ps)(hb:Below w.heap.size w w'):Dj B w' v ps:=h.keep (KT.below hb) (KT.below hb) fun _ _ _ hB=>hB.below hb hB.lt
theorem Dj.besides {B bp:Nat} {w w':World} {v:Value} {ps:List AA} (h:Dj B w v ps) (hs:Am bp w w') (hb:∃ cs,AB w bp 56 cs) (hne:v.ownBlock≠some bp):Dj B w' v ps:=by
 obtain⟨cs,hb⟩:=hb
 exact h.keep (hs.kt hb (by decide)) (hs.kt hb (by decide)) fun g cur e hB=>hs.blk hB fun e2=>hne (by rw[e,e2])
theorem Dj.ne {B g:Nat} {w:World} {v:Value} {ps:List AA} {T:TypeId} {cs:Array Value} (h:Dj B w v ps) (hb:AB w g T cs) (hne:T≠56):v.ownBlock≠some g:=by
 obtain⟨xs,ho,_⟩:=h
 rintro e
 rcases ho.2 with⟨rfl,_⟩|⟨g2,cap,cur,rfl,_,hh,_⟩
 · cases e
 · obtain rfl:g2=g:=Option.some.inj e
   rw[AB] at hb
   have:=hb.symm.trans hh
   simp at this
   exact hne this.2
def Jz (w:World) (A:Option Addr) (ps:List AA):Prop :=
 ∀ (i:Nat) (hi:i<ps.length),∃ b off A2 c2,A=some ⟨b,off,none⟩∧b<w.heap.size∧w.cell? ⟨b,off+i,none⟩=some (.slice A2 ps[i].length c2)∧PT w (.slice A2 ps[i].length c2) ps[i]
theorem Jz.grow {w w':World} {A:Option Addr} {ps:List AA} (h:Jz w A ps) (hb:Below w.heap.size w w'):Jz w' A ps:=fun i hi=>by
 obtain⟨b,off,A2,c2,e,hlt,hc,hp⟩:=h i hi
 exact⟨b,off,A2,c2,e,Nat.lt_of_lt_of_le hlt hb.size,(hb.cell (p:=⟨b,off+i,none⟩) hlt).trans hc,hp.below hb⟩
theorem Jz.take_ {w:World} {A:Option Addr} {ps:List AA} (h:Jz w A ps) (n:Nat):Jz w A (ps.take n):=fun i hi=>by
 have hi':i<ps.length:=by simp at hi;omega
 have:=h i hi'
 simpa using this
theorem Dj.form {B:Nat} {w:World} {v:Value} {ps:List AA} (h:Dj B w v ps):∃ A c,v=.slice A ps.length c∧ps.length≤c∧c≤9223372036854775807∧Jz w A ps:=by
 obtain⟨xs,ho,hl,hu⟩:=h
 rcases ho.2 with⟨rfl,h0⟩|⟨g,cap,cur,rfl,_,hh,hc,hm,_,ht⟩
 · have:ps=[]:=List.eq_nil_of_length_eq_zero h0
   subst this
   exact⟨none,0,rfl,by simp,by simp,fun i hi=>absurd hi (by simp)⟩
 · have hx:maxLen=9223372036854775807:=by decide
   refine⟨_,cap,rfl,hc,by omega,fun i hi=>?_⟩
   obtain⟨u,e,hp⟩:=hu i hi
   obtain⟨A2,c2,rfl,_⟩:=hp.form
   refine⟨g,0,A2,c2,rfl,AB.lt hh,?_,hp⟩
   rw[Nat.zero_add,AB.cell hh]
   rw[← ht,List.getElem?_take] at e
   split at e
   · simpa using e
   · cases e
theorem Dj.one (w:World) {B:Nat} (hB:B≤w.heap.size) {A:Option Addr} {c:Nat} {p:AA} (hp:PT w (.slice A p.length c) p):Dj B (w.alloc (.cells #[.slice A p.length c] 56)) (.slice (some ⟨w.heap.size,0,none⟩) 1 1) [p]:=by
 have:=World.ownsRow_lit (e:=56) (size:=1) w #[.slice A p.length c] 1 hB (by decide) (by simp)
 refine⟨[.slice A p.length c],by simpa using this,rfl,fun i hi=>?_⟩
 have:i=0:=by simp at hi;omega
 subst this
 exact⟨_,rfl,hp.below ((Below.refl _ _).alloc (Nat.le_refl _) _)⟩
theorem Gt {o:Oper} {a:Act} {K:Act→World→Prop} {Q:Exit→Act→World→Prop} {w:World} (s x:Operand)
    (ho:o.op=.call { callee:=.builtin .append,args:=#[s,x],argTypes:=#[33,33] })
    (base:Nat) (v:Value) (ps:List AA) (hs:a.eval s=v) (hown:Dj base w v ps)
    (B:Nat) (A:Option Addr) (c:Nat) (A2:Option Addr) (c2:Nat) (p:AA) (hx:a.eval x=.slice A 1 c) (hr:Reads w B 1 A 1 [.slice A2 p.length c2]) (hu:PT w (.slice A2 p.length c2) p)
    (hlen:ps.length≤1000000) (hbase:base≤w.heap.size)
    (h:∀ v' w',Dj base w' v' (ps ++ [p])→w.grownBy w' v.ownBlock→(v'.ownBlock=v.ownBlock∨v'.ownBlock=some w.heap.size)→KT 72 w w'→KT 57 w w'→KT 29 w w'→K (a.put o.dst v') w'):o.wp Tryz.prog a w K Q:=by
 obtain⟨xs,ho1,hl,hxs⟩:=hown
 obtain⟨i0,hi,hz0,hz1,hz2⟩:=info_parts Ty
 refine BZ w s x 33 ho base 56 i0 _ 1 24 Tryz.underlying33 hi hz0 hz1 hz2 rfl (by omega) v ps.length xs hs ho1 B A 1 c [.slice A2 p.length c2] hx hr (fun y hy=>by rw[List.mem_singleton.1 hy];rfl) (by unfold maxLen;omega) (by omega) hbase
     fun v' w' h2 h3 h4=>h v' w' ?_ h3 h4 (KT.grown ho1 (by decide) h3) (KT.grown ho1 (by decide) h3) (KT.grown ho1 (by decide) h3)
 have k1:KT 72 w w':=KT.grown ho1 (by decide) h3
 have k2:KT 57 w w':=KT.grown ho1 (by decide) h3
 refine⟨xs ++ [.slice A2 p.length c2],by rw[List.length_append];exact h2,by simp[hl],fun i hi=>?_⟩
 by_cases hip:i<ps.length
 · obtain⟨y,e,hy⟩:=hxs i hip
   refine⟨y,by rw[List.getElem?_append_left (by omega)];exact e,?_⟩
   rw[List.getElem_append_left hip];exact hy.keep k1 k2
 · have:i=ps.length:=by simp at hi;omega
   subst this
   exact⟨.slice A2 p.length c2,by rw[List.getElem?_append_right (by omega)];simp[hl],by simpa using hu.keep k1 k2⟩
theorem MR {ops:Array Oper} {rest:List Oper} {o:Oper} {a:Act} {Q:Exit→Act→World→Prop} {w:World} (hgd:o.guard=none) (s x:Operand)
    (ho:o.op=.call { callee:=.builtin .append,args:=#[s,x],argTypes:=#[33,33] })
    (base:Nat) (v:Value) (ps:List AA) (hs:a.eval s=v) (hown:Dj base w v ps)
    (B:Nat) (A:Option Addr) (c:Nat) (A2:Option Addr) (c2:Nat) (p:AA) (hx:a.eval x=.slice A 1 c) (hr:Reads w B 1 A 1 [.slice A2 p.length c2]) (hu:PT w (.slice A2 p.length c2) p)
    (hlen:ps.length≤1000000) (hbase:base≤w.heap.size)
    (h:∀ v' w',Dj base w' v' (ps ++ [p])→w.grownBy w' v.ownBlock→(v'.ownBlock=v.ownBlock∨v'.ownBlock=some w.heap.size)→KT 72 w w'→KT 57 w w'→KT 29 w w'→wpList Tryz.prog ops Q rest (a.put o.dst v') w'):wpList Tryz.prog ops Q (o :: rest) a w :=
 wpList_plain hgd fun _ hK=>Gt s x ho base v ps hs hown B A c A2 c2 p hx hr hu hlen hbase fun v' w' h1 h2 h3 h4 h5 h6=>hK _ _ (h v' w' h1 h2 h3 h4 h5 h6)
def BF(l:List CK):List Value:=l.flatMap fun b=>[.int .i64 b.1,.int .i64 b.2.1,.int .i64 b.2.2.1,.int .i64 b.2.2.2]
theorem Hg(a b:List CK):BF (a++b)=BF a++BF b:=by simp[BF]
theorem JU (l:List CK):∀ u∈BF l,u.oneCell'=true:=by
 intro u hu
 simp only[BF,List.mem_flatMap] at hu
 obtain⟨b,_,hu⟩:=hu
 simp at hu
 rcases hu with rfl|rfl|rfl|rfl <;> rfl
def CL(B:Nat)(w:World)(v:Value)(l:List CK):Prop:=w.ownsRow B 60 4 v l.length (BF l)
theorem Qt:(Tryz.prog.info? 60).map (fun i=>(i.zero,i.size,i.bytes))=some (some (.agg #[.int .i64 0,.int .i64 0,.int .i64 0,.int .i64 0]),4,32):=by kernel_rfl
theorem CL.nil_(B:Nat)(w:World):CL B w (.slice none 0 0) []:=World.ownsRow_nil _ _ _ _
theorem CL.lt{B:Nat}{w:World}{v:Value}{l:List CK}(h:CL B w v l):∀ k,v.ownBlock=some k→B≤k∧k<w.heap.size:=World.ownsRow.lt h
theorem CL.keep {B:Nat} {w w':World} {v:Value} {l:List CK} (h:CL B w v l) (h3:∀ g cur,v.ownBlock=some g→AB w g 60 cur→AB w' g 60 cur):CL B w' v l:=by
 refine⟨h.1,?_⟩
 rcases h.2 with h0|⟨g,cap,cur,e,hb,hh,h4⟩
 · exact .inl h0
 · exact .inr ⟨g,cap,cur,e,hb,h3 _ _ (by rw[e];rfl) hh,h4⟩
theorem CL.below{B:Nat}{w w':World}{v:Value}{l:List CK}(h:CL B w v l)(hb:Below w.heap.size w w'):CL B w' v l:=h.keep fun _ _ _ hB=>hB.below hb hB.lt
theorem CL.besides {B bp:Nat} {w w':World} {v:Value} {l:List CK} (h:CL B w v l) (hs:Am bp w w') (hne:v.ownBlock≠some bp):CL B w' v l :=
 h.keep fun g cur e hB=>hs.blk hB fun e2=>hne (by rw[e,e2])
theorem CL.ne {B g:Nat} {w:World} {v:Value} {l:List CK} {T:TypeId} {cs:Array Value} (h:CL B w v l) (hb:AB w g T cs) (hne:T≠60):v.ownBlock≠some g:=by
 rintro e
 rcases h.2 with⟨rfl,_⟩|⟨g2,cap,cur,rfl,_,hh,_⟩
 · cases e
 · obtain rfl:g2=g:=Option.some.inj e
   rw[AB] at hb
   have:=hb.symm.trans hh
   simp at this
   exact hne this.2
theorem CL.form {B:Nat} {w:World} {v:Value} {l:List CK} (h:CL B w v l):∃ A c,v=.slice A l.length c:=by
 rcases h.2 with⟨rfl,h0⟩|⟨g,cap,cur,rfl,_⟩
 · exact⟨none,0,by rw[h0]⟩
 · exact⟨_,_,rfl⟩
theorem QW {ops:Array Oper} {rest:List Oper} {o:Oper} {a:Act} {Q:Exit→Act→World→Prop} {w:World} (hgd:o.guard=none) (s x:Operand)
    (ho:o.op=.call { callee:=.builtin .append,args:=#[s,x],argTypes:=#[35,35] })
    (base:Nat) (v:Value) (l:List CK) (hs:a.eval s=v) (hown:CL base w v l)
    (B:Nat) (A:Option Addr) (c:Nat) (b:CK) (hx:a.eval x=.slice A 1 c) (hr:Reads w B 4 A 1 (BF [b]))
    (hlen:l.length+1≤1000000) (hbase:base≤w.heap.size)
    (h:∀ v' w',CL base w' v' (l ++ [b])→w.grownBy w' v.ownBlock→(v'.ownBlock=v.ownBlock∨v'.ownBlock=some w.heap.size)→wpList Tryz.prog ops Q rest (a.put o.dst v') w'):wpList Tryz.prog ops Q (o :: rest) a w:=by
 obtain⟨i0,hi,hz0,hz1,hz2⟩:=info_parts Qt
 refine wpList_plain hgd fun _ hK=>BZ w s x 35 ho base 60 i0 _ 4 32 Tryz.underlying35 hi hz0 hz1 hz2 rfl (by omega) v l.length (BF l) hs hown B A 1 c (BF [b]) hx hr (JU [b]) (by unfold maxLen;omega) (by omega) hbase
  fun v' w' h2 h3 h4=>hK _ _ (h v' w' ?_ h3 h4)
 unfold CL;rw[Hg,List.length_append];exact h2
def EX(m:AC)(k:Nat):Value:=.bool (match m.uT[k]? with|some r=>BB m r|none=>false)
theorem Q4 {m:AC} {w:World} {r:Nat} (h:w.heap[r]? = some (.map (BR (EX m) m.uT.length) m.uT.length)) {k:Nat} (hk:k<m.uT.length) :
    (Instr.lookup 68 (.map (some r)) (.int .i64 (k:Int)) false).run Tryz.prog w=.ok (.bool (BB m m.uT[k])) w:=by
 have hf:Instr.findNow (.int .i64) (.int .i64 (k:Int)) (BR (EX m) m.uT.length).toList 0=some (some (k,EX m k)):=by
  rw[Gd (EX m) m.uT.length k,if_pos (by omega)]
  simp
 have hz:(zeroValue 4).run Tryz.prog w=.ok (.bool false) w:=by kernel_rfl
 have:=Db (v:=EX m k) (b:=true) Tryz.underlying68 Tryz.underlying3 hz h hf rfl
 rw[this]
 simp[EX,hk]
theorem Bb.trans{B0 bp:Nat}{a b c:World}(h:Bb B0 bp a b)(k:Bb B0 bp b c):Bb B0 bp a c:=⟨h.b.trans k.b,h.km.trans k.km,h.ku.trans k.ku,h.kr.trans k.kr,fun cs hB=>k.kp cs (h.kp cs hB)⟩
theorem Bb.ofBelow{B0 bp:Nat}{W W':World}(hb:Below W.heap.size W W')(hB:B0≤W.heap.size):Bb B0 bp W W':=⟨hb.mono hB,KT.below hb,KT.below hb,KT.below hb,fun _ h=>h.below hb h.lt⟩
theorem DN {W:World} {g g':Nat} {T T':TypeId} {cs cs':Array Value} (h:AB W g T cs) (h':AB W g' T' cs') (hne:T≠T'):g≠g':=fun e=>by
 subst e
 rw[AB] at h h'
 rw[h] at h'
 simp at h'
 exact hne h'.2
theorem Bb.appended {B0 bp bx:Nat} {W w1:World} {v v':Value} {l:List CK} (hx:AB W bx 35 #[v]) (ho:CL B0 W v l) (hg:W.grownBy w1 v.ownBlock) (hB:B0≤W.heap.size) (hbx:B0≤bx):Bb B0 bp W (w1.setCell ⟨bx,0,none⟩ v'):=by
 have hne:some bx≠v.ownBlock:=fun e=>ho.ne hx (by decide) e.symm
 have hx1:AB w1 bx 35 #[v]:=hx.grown hg hne
 have hb1:Below B0 W w1:=(Below.refl B0 W).grown hg hB (fun g e=>(ho.lt g e).1)
 exact⟨hb1.setCell (by simpa using hbx) _,(KT.grown ho (by decide) hg).trans (KT.set_ hx1 (by decide) 0 _),(KT.grown ho (by decide) hg).trans (KT.set_ hx1 (by decide) 0 _),(KT.grown ho (by decide) hg).trans (KT.set_ hx1 (by decide) 0 _),fun cs hB2=>by
  have h1:=hB2.grown hg (fun e=>ho.ne hB2 (by decide) e.symm)
  exact h1.far (DN h1 hx1 (by decide)) _⟩
structure Eg (w0:World) (h:MH) (m:AC) (bm bw bx r:Nat) (l:List CK) (W:World):Prop where
 b:Below w0.heap.size w0 W
 mo:AB W bm 29 #[.slice h.s m.sT.length h.sc,.slice h.f m.fT.length h.fc,.slice h.r m.rT.length h.rc,.slice h.m m.mT.length h.mc,.slice h.l m.lT.length h.lc,.slice h.i m.iT.length h.ic,.int .i64 m.dT,.int .i64 m.oT,.int .i64 m.vT,.int .i64 m.aT,.slice h.u m.uT.length h.uc]
 wt:AB W bw 68 #[.map (some r)]
 mp:W.heap[r]? = some (.map (BR (EX m) m.uT.length) m.uT.length)
 o:∃ v,AB W bx 35 #[v]∧CL w0.heap.size W v l
theorem Eg.grow {w0:World} {h:MH} {m:AC} {bm bw bx r:Nat} {l:List CK} {W W':World} (s:Eg w0 h m bm bw bx r l W) (hb:Below W.heap.size W W'):Eg w0 h m bm bw bx r l W':=by
 obtain⟨v,h1,h2⟩:=s.o
 exact⟨s.b.trans (hb.mono s.b.size),s.mo.below hb s.mo.lt,s.wt.below hb s.wt.lt,(hb.block r (Array.getElem?_eq_some_iff.1 s.mp).1).trans s.mp,v,h1.below hb h1.lt,h2.below hb⟩
theorem Eg.besides {w0:World} {h:MH} {m:AC} {bm bw bx r bp:Nat} {l:List CK} {W W':World} (s:Eg w0 h m bm bw bx r l W) (hs:Am bp W W') (hp:∃ cs,AB W bp 56 cs) (h0:w0.heap.size≤bp):Eg w0 h m bm bw bx r l W':=by
 obtain⟨cs,hp⟩:=hp
 obtain⟨v,h1,h2⟩:=s.o
 have hr:r≠bp:=fun e=>by
  have:=s.mp
  rw[e,show W.heap[bp]? = _ from hp] at this
  cases this
 exact⟨s.b.trans (hs.toBelow h0 s.b.size),hs.blk s.mo (DN s.mo hp (by decide)),hs.blk s.wt (DN s.wt hp (by decide)),(hs.block r (Array.getElem?_eq_some_iff.1 s.mp).1 hr).trans s.mp,v,hs.blk h1 (DN h1 hp (by decide)),h2.besides hs (h2.ne hp (by decide))⟩
theorem Eg.appended {w0:World} {h:MH} {m:AC} {bm bw bx r:Nat} {l l':List CK} {W w1:World} {v v':Value} (s:Eg w0 h m bm bw bx r l W) (hx:AB W bx 35 #[v]) (ho:CL w0.heap.size W v l) (hg:W.grownBy w1 v.ownBlock) (ho':CL w0.heap.size w1 v' l') (hbx:w0.heap.size≤bx) :
    Eg w0 h m bm bw bx r l' (w1.setCell ⟨bx,0,none⟩ v'):=by
 have hne:∀ {g T cs},AB W g T cs→T≠60→some g≠v.ownBlock:=fun hB hn e=>ho.ne hB hn e.symm
 have hx1:AB w1 bx 35 #[v]:=hx.grown hg (hne hx (by decide))
 have hb1:Below w0.heap.size W w1:=(Below.refl _ W).grown hg s.b.size (fun g e=>(ho.lt g e).1)
 have hm1:AB w1 bm 29 #[.slice h.s m.sT.length h.sc,.slice h.f m.fT.length h.fc,.slice h.r m.rT.length h.rc,.slice h.m m.mT.length h.mc,.slice h.l m.lT.length h.lc,.slice h.i m.iT.length h.ic,.int .i64 m.dT,.int .i64 m.oT,.int .i64 m.vT,.int .i64 m.aT,.slice h.u m.uT.length h.uc]:=s.mo.grown hg (hne s.mo (by decide))
 have hw1:AB w1 bw 68 #[.map (some r)]:=s.wt.grown hg (hne s.wt (by decide))
 have hr1:w1.heap[r]? = some (.map (BR (EX m) m.uT.length) m.uT.length):=(hg.block r (Array.getElem?_eq_some_iff.1 s.mp).1 (fun e=>by
  rcases ho.2 with⟨rfl,_⟩|⟨g2,cap,cur,rfl,_,hh,_⟩
  · cases e
  · obtain rfl:r=g2:=Option.some.inj e
    rw[s.mp] at hh;cases hh)).trans s.mp
 have hrb:bx≠r:=fun e=>by rw[e,AB,hr1] at hx1;cases hx1
 refine⟨(s.b.trans hb1).setCell (by simpa using hbx) _,hm1.far (DN hm1 hx1 (by decide)) _,hw1.far (DN hw1 hx1 (by decide)) _,(Below.heap_setCell w1 ⟨bx,0,none⟩ v' r (fun e=>hrb e.symm)).trans hr1,v',by simpa using hx1.set_ 0 v',?_⟩
 exact ho'.keep fun g cur e hB=>hB.far (fun e2=>ho'.ne hx1 (by decide) (by rw[e,e2])) _
def Jk (w:World) (A:Option Addr) (l:List CK):Prop:=∀ k (hk:k<l.length),∃ b off,A=some ⟨b,off,none⟩∧b<w.heap.size ∧
 w.cell? ⟨b,off+k*4,none⟩=some (.int .i64 l[k].1)∧w.cell? ⟨b,off+k*4+1,none⟩=some (.int .i64 l[k].2.1)∧w.cell? ⟨b,off+k*4+2,none⟩=some (.int .i64 l[k].2.2.1)∧w.cell? ⟨b,off+k*4+3,none⟩=some (.int .i64 l[k].2.2.2)
theorem Jk.grow {w w':World} {A:Option Addr} {l:List CK} (h:Jk w A l) (hb:Below w.heap.size w w'):Jk w' A l:=fun k hk=>by
 obtain⟨b,off,e,hl,h0,h1,h2,h3⟩:=h k hk
 exact⟨b,off,e,Nat.lt_of_lt_of_le hl hb.size,(hb.cell (by exact hl)).trans h0,(hb.cell (by exact hl)).trans h1,(hb.cell (by exact hl)).trans h2,(hb.cell (by exact hl)).trans h3⟩
theorem O8 (l:List CK):∀ k (hk:k<l.length),(BF l)[k*4]? = some (.int .i64 l[k].1)∧(BF l)[k*4+1]? = some (.int .i64 l[k].2.1)∧(BF l)[k*4+2]? = some (.int .i64 l[k].2.2.1)∧(BF l)[k*4+3]? = some (.int .i64 l[k].2.2.2):=by
 induction l with
 | nil=>intro k hk;simp at hk
 | cons b l ih =>
   intro k hk
   cases k with
   | zero=>simp[BF]
   | succ k =>
     have:=ih k (by simpa using hk)
     have e:∀ j,(BF (b :: l))[(k+1)*4+j]? = (BF l)[k*4+j]?:=fun j=>by
      have:(k+1)*4+j=(k*4+j)+4:=by omega
      rw[this]
      simp[BF]
     refine⟨(e 0).trans this.1,(e 1).trans this.2.1,(e 2).trans this.2.2.1,(e 3).trans this.2.2.2⟩
theorem CL.rd {B:Nat} {w:World} {v:Value} {l:List CK} (h:CL B w v l):∃ A c,v=.slice A l.length c∧Jk w A l:=by
 rcases h.2 with⟨rfl,h0⟩|⟨g,cap,cur,rfl,_,hh,hc,hm,_,ht⟩
 · have:l=[]:=List.eq_nil_of_length_eq_zero h0
   subst this
   exact⟨none,0,rfl,fun k hk=>absurd hk (by simp)⟩
 · refine⟨_,cap,rfl,fun k hk=>⟨g,0,rfl,AB.lt hh,?_⟩⟩
   have hx:∀ j u,(BF l)[j]? = some u→w.cell? ⟨g,0+j,none⟩=some u:=fun j u hu=>by
    rw[Nat.zero_add,AB.cell hh j]
    rw[← ht,List.getElem?_take] at hu
    split at hu
    · simpa using hu
    · cases hu
   obtain⟨h0,h1,h2,h3⟩:=O8 l k hk
   exact⟨hx _ _ h0,hx _ _ h1,hx _ _ h2,hx _ _ h3⟩
theorem OW (A A2:Option Addr) (c c2:Nat) (l:List CK) (w:World) (h1:Jk w A l) (h2:Jk w A2 l) (hl:l.length≤9223372036854775807) :
    Calls Tryz.prog 16 #[.slice A l.length c,.slice A2 l.length c2] w (fun e w'=>e=.returned (.bool true)∧Below w.heap.size w w'):=by
 have HF:=hide (And.intro h1 h2)
 clear h1 h2
 go_enter Tryz.func16,Tryz.ntmps16
 go_wp2_with fail
 go_loopw [5] (fun i wr=>∃ k:Nat,k≤l.length∧i=.int .i64 k∧Below w.heap.size w wr) (fun i _=>l.length - (intOf i).toNat)
 case atStart=>exact⟨0,Nat.zero_le _,rfl,Below.refl _ _⟩
 case round =>
  obtain⟨k,hk,rfl,hbr⟩:=hrel
  have HBR:=hide hbr
  by_cases hlt:k<l.length
  · obtain ⟨b,off,hA,hb,x0,x1,x2,x3⟩:=(HF.out.1.grow hbr) k hlt
    obtain⟨b',off',hA',hb',y0,y1,y2,y3⟩:=(HF.out.2.grow hbr) k hlt
    subst hA hA'
    obtain⟨⟨b1,b2,b3,b4⟩,hx⟩:∃ x,l[k]=x:=⟨_,rfl⟩
    rw[hx] at x0 x1 x2 x3 y0 y1 y2 y3
    dsimp only at x0 x1 x2 x3 y0 y1 y2 y3
    clear hx hbr
    have hlI:(k:Int)<(l.length:Int):=by omega
    go_wp2_with fail
    go_region_held3 (fun W=>W.cell? ⟨b,off+k*4,none⟩=some (.int .i64 b1)∧W.cell? ⟨b,off+k*4+1,none⟩=some (.int .i64 b2)∧W.cell? ⟨b,off+k*4+2,none⟩=some (.int .i64 b3)∧W.cell? ⟨b,off+k*4+3,none⟩=some (.int .i64 b4) ∧
        W.cell? ⟨b',off'+k*4,none⟩=some (.int .i64 b1)∧W.cell? ⟨b',off'+k*4+1,none⟩=some (.int .i64 b2)∧W.cell? ⟨b',off'+k*4+2,none⟩=some (.int .i64 b3)∧W.cell? ⟨b',off'+k*4+3,none⟩=some (.int .i64 b4)∧Below w.heap.size w W)
     ((first|(go_keep;done)|exact⟨x0,x1,x2,x3,y0,y1,y2,y3,HBR.out.drew⟩)) ((fail))
    go_wp2_with fail
    go_roundw
    case rel=>exact⟨k+1,by omega,by go_num,HBR.out.drew⟩
    case measure=>simp[intOf];omega
  · obtain rfl:k=l.length:=by omega
    go_wp2_with fail
    go_ret
    exact⟨rfl,HBR.out⟩
def Bh(l:List EvM):Int×Int:=match l.findIdx? (fun x=>decide (x.kind=4)) with|some i=>((match l[i]? with|some x=>x.outcome|none=>0),(i:Int))|none=>(0,-1)
theorem NA (A:Option Addr) (c:Nat) (l:List EvM) (w:World) (hl:l.length≤1000) (h:Rows BD 22 w w.heap.size A l) :
    Calls Tryz.prog 37 #[.slice A l.length c] w (Br w (.tuple #[.int .i64 (Bh l).1,.int .i64 (Bh l).2])):=by
 have HC:=hide (Gf 80 #[] (fun _ _=>by kernel_rfl) (fun x=>decide (x.kind=4)) A c l w hl h (fun x j _ W _=>PS x j W))
 cases hf:l.findIdx? (fun x=>decide (x.kind=4)) with
 | none =>
   have HF:=hide (show Ae (fun x:EvM=>decide (x.kind=4)) l = -1 by unfold Ae;rw[hf])
   have HO:=hide (show Bh l=(0,-1) by unfold Bh;rw[hf])
   clear h hf
   go_enter Tryz.func37,Tryz.ntmps37
   go_wp2_with (go_at_call 70;refine HC.out.mono ?_;rintro e w1 ⟨he,hb1⟩;rw[HF.out] at he;subst he)
   go_ret2
   rw[HO.out]
   exact⟨rfl,hb1⟩
 | some i =>
   have hi:=(List.findIdx?_eq_some_iff_getElem.1 hf).1
   have HF:=hide (show Ae (fun x:EvM=>decide (x.kind=4)) l=(i:Int) by unfold Ae;rw[hf])
   obtain⟨x,hx⟩:∃ x,l[i]=x:=⟨_,rfl⟩
   have HO:=hide (show Bh l=(x.outcome,(i:Int)) by unfold Bh;rw[hf];simp[hi,hx])
   obtain⟨b,off,j,hA,hb,_,_,_,hc⟩:=h.ev hi hx
   have x21:=hc 21 _ rfl
   subst hA
   have HX:=hide x21
   have hiI:(i:Int)<(l.length:Int):=by omega
   have hi0:¬ ((i:Int)<0):=by omega
   clear h hf hc hx x21
   go_enter Tryz.func37,Tryz.ntmps37
   go_wp2_with (go_at_call 70;refine HC.out.mono ?_;rintro e w1 ⟨he,hb1⟩;rw[HF.out] at he;subst he;have y21:=(hb1.cell (p:=⟨b,off+i*22+21,none⟩) hb).trans HX.out;have yl:=Nat.lt_of_lt_of_le hb hb1.size)
   go_ret2
   rw[HO.out]
   exact⟨rfl,hb1⟩
def Ao(k:Int)(l:List EvM):Nat:=(l.filter fun x=>decide (x.kind=k)).length
theorem JY (k:Int) (l:List EvM) {i:Nat} (hi:i<l.length):Ao k (l.take (i+1))=Ao k (l.take i)+if l[i].kind=k then 1 else 0:=by
 unfold Ao
 rw[List.take_succ_eq_append_getElem hi,List.filter_append,List.length_append]
 split <;> rename_i h <;> simp[h]
theorem H6 (kd:Int) (A:Option Addr) (c:Nat) (l:List EvM) (bl B:Nat) (w:World) (hl:l.length≤1000) (hB:B≤w.heap.size) (hP:F7 w) (h:Rows BD 22 w B A l) (hbl:AB w bl 30 #[.slice A l.length c]) :
    Calls Tryz.prog 35 #[.int .i64 kd,.pointer (some ⟨bl,0,none⟩)] w (Br w (.string (BO (Ao kd l)))):=by
 have b0:=hbl.cell 0
 have bl0:=hbl.lt
 simp at b0
 have HE:=hide h
 have HP:=hide hP
 have HBB:=hide hB
 clear h hbl hP
 go_enter Tryz.func35,Tryz.ntmps35
 go_wp2_with fail
 go_loopw [4,9] (fun v i wr=>∃ k:Nat,k≤l.length∧i=.int .i64 k∧v=.int .i64 (Ao kd (l.take k))∧Below w.heap.size w wr) (fun _ i _=>l.length - (intOf i).toNat)
 case atStart=>exact⟨0,Nat.zero_le _,rfl,rfl,Below.refl _ _⟩
 case round =>
  obtain⟨k,hk,rfl,rfl,hbr⟩:=hrel
  by_cases hlt:k<l.length
  · obtain ⟨x,hx⟩:∃ x,l[k]=x:=⟨_,rfl⟩
    obtain⟨b,off,j,hA,hb,_,_,_,hc⟩:=(HE.out.below (hbr.mono HBB.out)).evRange hlt hx
    have HCR:=hide hc
    subst hA
    have hlI:(k:Int)<(l.length:Int):=by omega
    have HS:=hide (JY kd l hlt)
    rw[hx] at HS
    obtain⟨n,hn⟩:∃ n,n=Ao kd (l.take k):=⟨_,rfl⟩
    have hn1:n≤1000:=by rw[hn];unfold Ao;have:=List.length_filter_le (fun x:EvM=>decide (x.kind=kd)) (l.take k);simp at this;omega
    rw[← hn] at HS ⊢
    clear hc hx hn
    have HBE:=hide (hbr.alloc hbr.size (.cells #[.int .i64 x.kind,.int .i64 x.mach,.int .i64 j.v2,.int .i64 j.v3,.int .i64 x.group,.int .i64 j.v5,.string j.v6,.int .i64 j.v7,.int .i64 j.v8,.int .i64 j.v9,.bool j.v10,.int .i64 j.v11,.slice j.A x.old.length j.c,.slice j.A13 j.n13 j.c13,.slice j.A14 j.n14 j.c14,.int .i64 x.hitem,.int .i64 j.v16,.int .i64 x.hstate,.int .i64 j.v18,.int .i64 j.v19,.bool x.gone,.int .i64 x.outcome] 85))
    by_cases hkd:x.kind=kd
    · rw[if_pos hkd] at HS
      have hke:(x.kind == kd)=true:=by simpa using hkd
      clear hkd
      go_wp2_with (first
       | (refine wpList_load_mid (op:=⟨some 12,_,_,_,_,_⟩) rfl 85 _ rfl b (off+k*22) rfl [.int .i64 x.kind,.int .i64 x.mach,.int .i64 j.v2,.int .i64 j.v3,.int .i64 x.group,.int .i64 j.v5,.string j.v6,.int .i64 j.v7,.int .i64 j.v8,.int .i64 j.v9,.bool j.v10,.int .i64 j.v11,.slice j.A x.old.length j.c,.slice j.A13 j.n13 j.c13,.slice j.A14 j.n14 j.c14,.int .i64 x.hitem,.int .i64 j.v16,.int .i64 x.hstate,.int .i64 j.v18,.int .i64 j.v19,.bool x.gone,.int .i64 x.outcome] _ HCR.out Tryz.underlying85 rfl Ck ?_)
       | (refine wpList_store_row (o:=⟨none,.store 85 _ _,_,_,_,_⟩) rfl 85 _ _ rfl wr.heap.size #[.int .i64 x.kind,.int .i64 x.mach,.int .i64 j.v2,.int .i64 j.v3,.int .i64 x.group,.int .i64 j.v5,.string j.v6,.int .i64 j.v7,.int .i64 j.v8,.int .i64 j.v9,.bool j.v10,.int .i64 j.v11,.slice j.A x.old.length j.c,.slice j.A13 j.n13 j.c13,.slice j.A14 j.n14 j.c14,.int .i64 x.hitem,.int .i64 j.v16,.int .i64 x.hstate,.int .i64 j.v18,.int .i64 j.v19,.bool x.gone,.int .i64 x.outcome] rfl rfl 85 _ (heap_alloc_last wr _) Ck rfl (J9 x j) ?_;rw[World.setRow_alloc_new]))
      go_roundw
      case rel=>exact⟨k+1,by omega,by go_num,by rw[HS.out];go_num,HBE.out⟩
      case measure=>simp[intOf];omega
    · rw[if_neg hkd,Nat.add_zero] at HS
      have hke:(x.kind == kd)=false:=by simpa using hkd
      clear hkd
      go_wp2_with (first
       | (refine wpList_load_mid (op:=⟨some 12,_,_,_,_,_⟩) rfl 85 _ rfl b (off+k*22) rfl [.int .i64 x.kind,.int .i64 x.mach,.int .i64 j.v2,.int .i64 j.v3,.int .i64 x.group,.int .i64 j.v5,.string j.v6,.int .i64 j.v7,.int .i64 j.v8,.int .i64 j.v9,.bool j.v10,.int .i64 j.v11,.slice j.A x.old.length j.c,.slice j.A13 j.n13 j.c13,.slice j.A14 j.n14 j.c14,.int .i64 x.hitem,.int .i64 j.v16,.int .i64 x.hstate,.int .i64 j.v18,.int .i64 j.v19,.bool x.gone,.int .i64 x.outcome] _ HCR.out Tryz.underlying85 rfl Ck ?_)
       | (refine wpList_store_row (o:=⟨none,.store 85 _ _,_,_,_,_⟩) rfl 85 _ _ rfl wr.heap.size #[.int .i64 x.kind,.int .i64 x.mach,.int .i64 j.v2,.int .i64 j.v3,.int .i64 x.group,.int .i64 j.v5,.string j.v6,.int .i64 j.v7,.int .i64 j.v8,.int .i64 j.v9,.bool j.v10,.int .i64 j.v11,.slice j.A x.old.length j.c,.slice j.A13 j.n13 j.c13,.slice j.A14 j.n14 j.c14,.int .i64 x.hitem,.int .i64 j.v16,.int .i64 x.hstate,.int .i64 j.v18,.int .i64 j.v19,.bool x.gone,.int .i64 x.outcome] rfl rfl 85 _ (heap_alloc_last wr _) Ck rfl (J9 x j) ?_;rw[World.setRow_alloc_new]))
      go_roundw
      case rel=>exact⟨k+1,by omega,by go_num,by rw[HS.out];simp,HBE.out⟩
      case measure=>simp[intOf];omega
  · obtain rfl:k=l.length:=by omega
    rw[List.take_length]
    have hn1:Ao kd l≤1000:=by unfold Ao;have:=List.length_filter_le (fun x:EvM=>decide (x.kind=kd)) l;omega
    have HI:=hide (IB (Ao kd l) wr (HP.out.below (Nat.le_refl _) hbr) (by simp[JK];omega))
    go_wp2_with (go_at_call 36;refine HI.out.mono ?_;rintro e w1 ⟨rfl,hb1⟩)
    go_ret
    exact⟨rfl,hbr.trans (hb1.mono hbr.size)⟩
end Go.Proofs.YtfemlajeomohhaaGreatDoor
