/- A part of the claim: see its last text. -/
import Derived.Test.YtfemlajeomohhaaGreatDoorUK29

set_option maxRecDepth 100000
set_option maxHeartbeats 16000000
namespace Go.Proofs.YtfemlajeomohhaaGreatDoor
open Go Go.RowKit Go.Proofs
def Ga(es:List MapEntry)(ds:List Int):Prop:=es.map (fun e=>(e.key,e.val))=ds.map (fun k=>(Value.int .i64 k,Value.bool true))
theorem LQ (k:Int):∀ (es:List MapEntry) (ds:List Int) (i:Nat),Ga es ds→Instr.findNow (.int .i64) (.int .i64 k) es i=some ((ds.findIdx? (fun d=>decide (k=d))).map fun j=>(i+j,Value.bool true))
 | [],[],_,_=>rfl
 | [],_ :: _,_,h=>by simp[Ga] at h
 | _ :: _,[],_,h=>by simp[Ga] at h
 | e :: es,d :: ds,i,h=>by
   simp only[Ga,List.map_cons,List.cons.injEq,Prod.mk.injEq] at h
   obtain⟨⟨h1,h2⟩,h3⟩:=h
   unfold Instr.findNow
   rw[List.findIdx?_cons]
   by_cases hk:k=d
   · subst hk
     simp[h1,h2,Instr.sameNow]
   · rw[h1,IG hk]
     have:=LQ k es ds (i+1) h3
     simp only
     rw[this,if_neg (by simpa using hk)]
     cases ds.findIdx? (fun d=>decide (k=d)) with
     | none=>rfl
     | some j=>simp;omega
def IY(w:World)(r:Nat)(ds:List Int):Prop:=∃ es c,w.heap[r]? = some (.map es c)∧Ga es.toList ds∧ds.Nodup
theorem IY.lt {w:World} {r:Nat} {ds:List Int} (h:IY w r ds):r<w.heap.size:=by
 obtain⟨es,c,h,_⟩:=h
 exact(Array.getElem?_eq_some_iff.1 h).1
theorem IY.keep {w w':World} {r:Nat} {ds:List Int} (h:IY w r ds) (e:w'.heap[r]? = w.heap[r]?):IY w' r ds:=by
 obtain⟨es,c,h,k⟩:=h
 exact⟨es,c,e.trans h,k⟩
theorem IY.look {P:Program} {w:World} {t K E:TypeId} {r:Nat} {ds:List Int} (h:IY w r ds) (ht:P.underlying t=some (.map K E)) (hk:P.underlying K=some (.int .i64)) (hz:(zeroValue E).run P w=.ok (.bool false) w) (k:Int) :
    (Instr.lookup t (.map (some r)) (.int .i64 k) false).run P w=.ok (.bool (decide (k∈ds))) w:=by
 obtain⟨es,c,hg,hK,_⟩:=h
 refine Db (b:=decide (k∈ds)) ht hk hz hg (LQ k es.toList ds 0 hK) ?_
 cases hf:ds.findIdx? (fun d=>decide (k=d)) with
 | none =>
   rw[List.findIdx?_eq_none_iff] at hf
   have:k ∉ ds:=fun hm=>by have:=hf k hm;simp at this
   simp[Fy,this]
 | some j =>
   rw[List.findIdx?_eq_some_iff_getElem] at hf
   obtain⟨hj,hp,_⟩:=hf
   have:k∈ds:=by rw[of_decide_eq_true hp];exact List.getElem_mem hj
   simp[Fy,this]
theorem IY.put{w:World}{r:Nat}{ds:List Int}{es:Array MapEntry}{c:Nat}(hr:r<w.heap.size)(h1:Ga es.toList ds)(h2:ds.Nodup):IY (w.putObj r (.map es c)) r ds:=⟨es,c,World.putObj_heap_same hr,h1,h2⟩
/-! plain -/
/-! memory -/
structure Em (w0:World) (A:Option Addr) (n c:Nat) (item:Int) (bl bd r bi bn bo:Nat) (ds:List Int) (run most:Int) (W:World):Prop where
 b:Below w0.heap.size w0 W
 lb:AB W bl 30 #[.slice A n c]
 mb:AB W bd 68 #[.map (some r)]
 dm:IY W r ds
 ib:AB W bi 3 #[.int .i64 item]
 nb:AB W bn 3 #[.int .i64 run]
 ob:AB W bo 3 #[.int .i64 most]
theorem Em.grow {w0:World} {A:Option Addr} {n c:Nat} {item:Int} {bl bd r bi bn bo:Nat} {ds:List Int} {run most:Int} {W W':World} (s:Em w0 A n c item bl bd r bi bn bo ds run most W) (hb:Below W.heap.size W W'):Em w0 A n c item bl bd r bi bn bo ds run most W' :=
 ⟨s.b.trans (hb.mono s.b.size),s.lb.below hb s.lb.lt,s.mb.below hb s.mb.lt,s.dm.keep (hb.block r s.dm.lt),s.ib.below hb s.ib.lt,s.nb.below hb s.nb.lt,s.ob.below hb s.ob.lt⟩
theorem Em.put {w0:World} {A:Option Addr} {n c:Nat} {item:Int} {bl bd r bi bn bo:Nat} {ds ds':List Int} {run most:Int} {W:World} {es:Array MapEntry} {k:Nat} (s:Em w0 A n c item bl bd r bi bn bo ds run most W) (hr:w0.heap.size≤r) (h1:Ga es.toList ds') (h2:ds'.Nodup) :
    Em w0 A n c item bl bd r bi bn bo ds' run most (W.putObj r (.map es k)):=by
 obtain⟨es0,c0,hg,_⟩:=s.dm
 have hk:=fun T=>KT.putObj_ (T:=T) W r _ (.map es k) hg rfl
 exact⟨s.b.grown (grownBy_putObj' W r _) s.b.size (fun g e=>by cases e;exact hr),(hk _).2 _ _ s.lb,(hk _).2 _ _ s.mb,IY.put s.dm.lt h1 h2,(hk _).2 _ _ s.ib,(hk _).2 _ _ s.nb,(hk _).2 _ _ s.ob⟩
theorem Em.keys {w0:World} {A:Option Addr} {n c:Nat} {item:Int} {bl bd r bi bn bo:Nat} {ds:List Int} {run most:Int} {W:World} (s:Em w0 A n c item bl bd r bi bn bo ds run most W) (T:TypeId) (es:Array MapEntry) (k:Nat):KT T W (W.putObj r (.map es k)):=by
 obtain⟨es0,c0,hg,_⟩:=s.dm
 exact KT.putObj_ W r _ (.map es k) hg rfl
theorem Em.heap_r {w0:World} {A:Option Addr} {n c:Nat} {item:Int} {bl bd r bi bn bo:Nat} {ds:List Int} {run most:Int} {W:World} (s:Em w0 A n c item bl bd r bi bn bo ds run most W) {g:Nat} {T:TypeId} {cs:Array Value} (h:AB W g T cs):r≠g:=fun e=>by
 obtain⟨es0,c0,hg,_⟩:=s.dm
 rw[e,show W.heap[g]? = _ from h] at hg
 cases hg
theorem Em.turned {w0:World} {A:Option Addr} {n c:Nat} {item:Int} {bl bd r bi bn bo:Nat} {ds:List Int} {run most:Int} {W:World} (s:Em w0 A n c item bl bd r bi bn bo ds run most W) (hn:w0.heap.size≤bn) (h1:bi≠bn) (h2:bn≠bo) (run':Int) :
    Em w0 A n c item bl bd r bi bn bo ds run' most (W.setCell ⟨bn,0,none⟩ (.int .i64 run')):=by
 have hrn:=s.heap_r s.nb
 refine⟨s.b.setCell (by simpa using hn) _,s.lb.far (DN s.lb s.nb (by decide)) _,s.mb.far (DN s.mb s.nb (by decide)) _,s.dm.keep (Below.heap_setCell W ⟨bn,0,none⟩ _ r (by simpa using hrn)),s.ib.far h1 _,by simpa using s.nb.set_ 0 (.int .i64 run'),s.ob.far (by simpa using fun e=>h2 e.symm) _⟩
theorem Em.visit {w0:World} {A:Option Addr} {n c:Nat} {item:Int} {bl bd r bi bn bo bp:Nat} {ds:List Int} {run most:Int} {W:World} (s:Em w0 A n c item bl bd r bi bn bo ds run most W) (hr:w0.heap.size≤r) (es:Array MapEntry) (k:Nat):Bb w0.heap.size bp W (W.putObj r (.map es k)) :=
 ⟨(Below.refl _ _).grown (grownBy_putObj' W r _) s.b.size (fun g e=>by cases e;exact hr),s.keys _ es k,s.keys _ es k,s.keys _ es k,fun _ hB=>(s.keys _ es k).2 _ _ hB⟩
structure Tq (w0:World) (A:Option Addr) (n c:Nat) (item:Int) (bl bd r bi bn bo bp bb:Nat) (ds:List Int) (run most:Int) (A':Option Addr) (c':Nat) (q:AA) (W W1:World):Prop where
 s:Em w0 A n c item bl bd r bi bn bo ds run most W1
 v:Bb w0.heap.size bp W W1
 p:AB W1 bb 56 #[.slice A' q.length c']
 t:PT W1 (.slice A' q.length c') q
theorem Tq.put {w0:World} {A:Option Addr} {n c:Nat} {item:Int} {bl bd r bi bn bo bp bb:Nat} {ds ds':List Int} {run most:Int} {A':Option Addr} {c':Nat} {q:AA} {W W1:World} {es:Array MapEntry} {k:Nat} (T:Tq w0 A n c item bl bd r bi bn bo bp bb ds run most A' c' q W W1) (hr:w0.heap.size≤r) (h1:Ga es.toList ds') (h2:ds'.Nodup) :
    Tq w0 A n c item bl bd r bi bn bo bp bb ds' run most A' c' q W (W1.drew.putObj r (.map es k)):=by
 have hd:=T.s.grow (Below.refl _ W1).drew
 exact⟨hd.put hr h1 h2,(T.v.trans (Bb.ofBelow (Below.refl _ W1).drew T.s.b.size)).trans (hd.visit hr es k),(hd.keys _ es k).2 _ _ T.p,T.t.keep (hd.keys _ es k) (hd.keys _ es k)⟩
end Go.Proofs.YtfemlajeomohhaaGreatDoor
