/- Lemmas on the way to the law; no conditions. -/
import Derived.Test.YtgaboghigefgbaaGreatDoorZ32
import Derived.Test.YtgaboghigefgbaaGreatDoorZ8
set_option linter.all false
namespace Go.Proofs.YtgaboghigefgbaaGreatDoor
open Go.RowKit
def tkX(t:Tok):Int × ByteArray × Int:=(t.kind,⟨t.text.toArray⟩,t.value)
theorem Qbs:∀(f:Nat) (l acc:List UInt8) (i:Nat),(qtA f l acc i).1.length≤acc.length+l.length:=by
 intro f
 induction f with
 | zero=>intro l acc i;simp[qtA]
 | succ f ih=>
  intro l acc i;cases l with
  | nil=>simp[qtA]
  | cons c r=>
   simp only[qtA];split
   ·simp
   split
   ·simp
   split
   ·split
    ·simp
    have:=ih (r.drop (esc r).2.1) (acc++[(esc r).1.toNat.toUInt8]) (i+(esc r).2.1+1);simp only[List.length_append,List.length_cons,List.length_nil,List.length_drop]at this ⊢;omega
   have:=ih r (acc++[c]) (i+1);simp only[List.length_append,List.length_cons,List.length_nil]at this ⊢;omega
theorem Q5n(l:List UInt8):(Q2b l).1.text.length≤l.length:=by
 have hs:(if Qmd l > 0 then((⟨4,l.take (Qmd l),0,0,0⟩:Tok),Qmd l,(0:Int))else(⟨0,[],0,0,0⟩,0,20)).1.text.length≤l.length:=by
  split
  ·simp[List.length_take];omega
  simp
 unfold Q2b;simp only[];split
 ·split
  ·simp[List.length_take];omega
  split
  ·simp[List.length_take];omega
  simp
 split
 ·simp
 split
 ·have:=Qbs l.length (l.drop 1) [] 1;simp only[List.length_nil,List.length_drop]at this;show(qtA l.length (l.drop 1) [] 1).1.length≤_;omega
 split
 ·simp[List.length_take];omega
 split
 ·split
  ·simp[List.length_take];omega
  exact hs
 exact hs
theorem Qfs(file:Int)(N:Nat):∀(f:Nat) (l:List UInt8) (p:Int × Int) (acc:List Tok),l.length≤N→acc.length≤6000→(∀t∈acc,t.text.length≤N)→
 (∀t∈(rdA file f l p acc).1,t.text.length≤N)∧(rdA file f l p acc).1.length≤6001∧((rdA file f l p acc).2.2=0→∃ts t,(rdA file f l p acc).1=ts++[t]∧t.kind=8):=by
 intro f
 induction f with
 | zero=>intro l p acc _ _ _;simp[rdA]
 | succ f ih=>
  intro l p acc hl ha ht;rw[rdA];simp only[];split
  ·simp
  split
  ·simp
  split
  ·refine⟨?_,by simp;omega,fun _=>⟨_,_,rfl,rfl⟩⟩;intro t h;rcases List.mem_append.1 h with h|h
   ·exact ht t h
   rw[List.mem_singleton.1 h];simp
  split
  ·rename_i hn;exact⟨by simp,by simp,fun e=>absurd e hn⟩
  rename_i hn _ _;refine ih _ _ _ (by simp;omega) (by simp;omega) ?_;intro t h;rcases List.mem_append.1 h with h|h
  ·exact ht t h
  rw[List.mem_singleton.1 h];have:=Q5n (l.drop (blk l.length l).1);simp only[List.length_drop]at this;show(Q2b (l.drop (blk l.length l).1)).1.text.length≤N;omega
theorem Qso(l:List UInt8)(file:Int):(∀t∈(QZc l file).1,t.text.length≤16000)∧(QZc l file).1.length≤6001∧((QZc l file).2.2=0→∃ts t,(QZc l file).1=ts++[t]∧t.kind=8):=by
 unfold QZc;split
 ·simp
 exact Qfs file 16000 _ l (1,1) [] (by omega) (by simp) (by simp)
end Go.Proofs.YtgaboghigefgbaaGreatDoor
